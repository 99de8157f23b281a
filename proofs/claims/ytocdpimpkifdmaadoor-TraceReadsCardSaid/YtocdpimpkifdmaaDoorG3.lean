import Derived.Test.YtocdpimpkifdmaaDoorProg
import Derived.Test.YtocdpimpkifdmaaDoorFwShort
import Derived.Test.YtocdpimpkifdmaaDoorFwOpen
import Derived.Test.YtocdpimpkifdmaaDoorG0
namespace Go.Proofs.YtocdpimpkifdmaaDoor.G
open Go Go.Fw Go.RowKit Go.Proofs
set_option linter.unusedVariables false
set_option linter.unusedSimpArgs false

structure S50 where
 f0 : Int
 f1 : Int
 f2 : Int
 f3 : Int
deriving DecidableEq
def zS50 : S50 := ⟨0, 0, 0, 0⟩
def kS50 : Kd S50 := Kd.iso (Kd.prod (Kd.int .u8) (Kd.prod (Kd.int .u8) (Kd.prod (Kd.int .u8) (Kd.prod (Kd.int .u8) Kd.unit)))) (fun s => (s.f0, s.f1, s.f2, s.f3, ()))
def encS50 (s : S50) : List Value := [ig s.f0, ig s.f1, ig s.f2, ig s.f3]
theorem encS50_of (w : World) (G : Bl) (vs : List Value) (x : S50) (h : kS50.rep w G vs x) : vs = encS50 x := by
 obtain ⟨_, _, rfl, h0, ⟨_, _, rfl, h1, ⟨_, _, rfl, h2, ⟨_, _, rfl, h3, hu⟩⟩⟩⟩ := h
 have h0 := encI_of _ _ _ _ h0
 have h1 := encI_of _ _ _ _ h1
 have h2 := encI_of _ _ _ _ h2
 have h3 := encI_of _ _ _ _ h3
 have hu : _ = [] := hu
 subst hu
 subst h0
 subst h1
 subst h2
 subst h3
 rfl

noncomputable def Cd5 : Code := bodyOf Tryd.f5

noncomputable def Cd12 : Code := bodyOf Tryd.f12

noncomputable def Cd17 : Code := bodyOf Tryd.f17

/-! ### confidant/confidantlaw23.some: function 12 -/
def confidantlaw23_some.l0 (K : Nat) (l23 : List S50) : Nat → (List S28) → Int → Option (List S28)
 | 0, _, _ => none
 | n + 1, a4, a0 => if a0 < (l23.length : Int) then (if 0 ≤ a0 then (lt ([(⟨IntKind.i64.wrap ((l23.getD a0.toNat zS50).f0), IntKind.i64.wrap (Int.tmod ((l23.getD a0.toNat zS50).f1) 16), IntKind.i64.wrap ((IntKind.i64.wrap (Int.tmod ((l23.getD a0.toNat zS50).f2) 11)) + 1), IntKind.i64.wrap (Int.tmod ((l23.getD a0.toNat zS50).f3) 8), IntKind.i32.wrap ((IntKind.i32.wrap ((l23.getD a0.toNat zS50).f0)) * 300), IntKind.i32.wrap ((IntKind.i32.wrap ((l23.getD a0.toNat zS50).f1)) - 128), IntKind.i32.wrap ((l23.getD a0.toNat zS50).f3)⟩ : S28)] : List S28) fun b0 => (if (a4.length + b0.length) * 48 ≤ 140737488355328 then (lt (a4 ++ b0) fun a7 => (confidantlaw23_some.l0 K l23 n a7 (IntKind.i64.wrap (a0 + 1)))) else none)) else none) else (some a4)
def confidantlaw23_some.f (K : Nat) (l23 : List S50) : Option (List S28) := confidantlaw23_some.l0 K l23 K ([] : List S28) 0
set_option maxRecDepth 100000 in
theorem confidantlaw23_some.calls {K : Nat} {l23 : List S50} {A24 : Option Addr} {C25 : Nat} {b1 : List S28} {B w : World} {os : List Ass} {rs : List Ro} (H : confidantlaw23_some.f K l23 = some b1) (hS : St B w (os) (Ro.sl kS50 A24 C25 l23 :: rs)) :
  Calls Tryd.prog 12 [sv A24 C25 l23].toArray w (fun en w' => ∃ v, en = .returned v ∧ ∃ b2 : Option Addr, ∃ b3 : Nat, v = sv b2 b3 b1 ∧ St B w' (Ass.own 28 kS28 b2 b3 b1 :: os) (Ro.sl kS50 A24 C25 l23 :: rs)) := by
 unfold confidantlaw23_some.f at H
 refine calls_of_EW (args := [sv A24 C25 l23]) (c := Cd12) 64 Tryd.func12 (by kernel_rfl) (by kernel_rfl) (by kernel_rfl) ?_
 refine EW.sq (by kernel_rfl) ?_
 refine EW.rg (by kernel_rfl) ?_
 refine EL.quick 1 [0] [(0, sv A24 C25 l23)] (by kernel_rfl) ?_
 refine EL.done (by kernel_rfl) ?_
 refine EQ.code ?_
 refine EW.sq (by kernel_rfl) ?_
 refine EW.rg (by kernel_rfl) ?_
 refine EL.quick 1 [0, 3] [(0, sv A24 C25 l23), (3, sv none 0 ([] : List S28))] (by kernel_rfl) ?_
 refine EL.done (by kernel_rfl) ?_
 refine EQ.code ?_
 refine EW.sq (by kernel_rfl) ?_
 refine EW.sq (by kernel_rfl) ?_
 refine EW.rg (by kernel_rfl) ?_
 refine EL.quick 1 [0, 3, 4] [(0, sv A24 C25 l23), (3, sv none 0 ([] : List S28)), (4, ia 0)] (by kernel_rfl) ?_
 refine EL.done (by kernel_rfl) ?_
 refine EQ.code ?_
 refine EW.bl 0 (by kernel_rfl) ?_
 have hS := St.nilO hS 28 kS28
 refine EW.lp (fun n a w => ∃ a4 : List S28, ∃ a0 : Int, ∃ a5 : Option Addr, ∃ a6 : Nat, Sat 64 [(0, sv A24 C25 l23), (3, sv a5 a6 a4), (4, ia a0)] a ∧ St B w (Ass.own 28 kS28 a5 a6 a4 :: os) (Ro.sl kS50 A24 C25 l23 :: rs) ∧ confidantlaw23_some.l0 K l23 n a4 a0 = some b1) K (by kernel_rfl) ?_ (fun n a w hI => ?_)
 ·refine EQ.keep [0, 3, 4] [(0, sv A24 C25 l23), (3, sv none 0 ([] : List S28)), (4, ia 0)] (by kernel_rfl) ?_
  exact fun a ha => ⟨([] : List S28), 0, none, 0, ha, (hS.re [0] [] rfl (sub_cons 0 rfl (sub_tail (sub_self)))), H⟩
 obtain ⟨a4, a0, a5, a6, ha, hS, H⟩ := hI
 obtain _ | n := n
 ·simp [confidantlaw23_some.l0] at H
 rw [confidantlaw23_some.l0.eq_2] at H
 refine EW.at ?_ a ha
 clear ha a
 refine EW.sq (by kernel_rfl) ?_
 refine EW.sq (by kernel_rfl) ?_
 refine EW.rg (by kernel_rfl) ?_
 refine EL.quick 4 [0, 3, 4, 8] [(0, sv A24 C25 l23), (3, sv a5 a6 a4), (4, ia a0), (8, .bool (decide (a0 < (l23.length : Int))))] (by kernel_rfl) ?_
 refine EL.done (by kernel_rfl) ?_
 refine EQ.code ?_
 refine EW.cdP (a0 < (l23.length : Int)) (by kernel_rfl) (by kernel_rfl) (fun a2 => ?_) (fun a2 => ?_)
 ·rw [if_pos a2] at H
  refine EW.skip (by kernel_rfl) ?_
  refine EQ.code ?_
  refine EW.sq (by kernel_rfl) ?_
  refine EW.bl 1 (by kernel_rfl) ?_
  obtain ⟨a3, H⟩ := ite_in H
  obtain ⟨a1, rfl⟩ := St.rd_some hS (Rd.ro 0 rfl) a3 a2
  obtain ⟨b0, b5, H⟩ := lt_out H
  obtain ⟨b6, H⟩ := ite_in H
  obtain ⟨a7, b7, H⟩ := lt_out H
  have hS := hS.drew
  refine EW.dr (B := B) [] [Ro.sl kS50 (some a1) C25 l23] (by kernel_rfl) (by kernel_rfl) ?_
  have hN : Region.noSelect Cd12.r.r.l.r.l.l.r.l.l.ops = true := (by kernel_rfl)
  have hF : freeAll Cd12.r.r.l.r.l.l.r.l.l.ops = true := (by kernel_rfl)
  have hC : Core B [] [Ro.sl kS50 (some a1) C25 l23] _ := ⟨_, _, hS⟩
  refine ED.quick hN hF hC [0, 1, 2, 7, 8, 14, 15, 22, 23, 29, 30, 36, 37, 43, 44] [0, 4, 11, 12, 13, 18, 19, 25, 26, 33, 34, 40, 41, 47, 48, 54, 55] 38 [(0, sv (some a1) C25 l23), (4, ia a0), (11, sv a5 a6 a4), (12, sv (some a1) C25 l23), (13, ia a0), (18, sv (some a1) C25 l23), (19, ia a0), (25, sv (some a1) C25 l23), (26, ia a0), (33, sv (some a1) C25 l23), (34, ia a0), (40, sv (some a1) C25 l23), (41, ia a0), (47, sv (some a1) C25 l23), (48, ia a0), (54, sv (some a1) C25 l23), (55, ia a0)] (bm 53 26596060742023) (by kernel_rfl) (by kernel_rfl) ?_
  refine ED.Y hN hF hC 3 37 (bm 53 26596060742031) (by kernel_rfl) (by kernel_rfl) rfl (fun _ _ _ hS => YO.idx 23 4 a1 l23.length C25 .i64 a0 14 (by kernel_rfl) (by kernel_rfl) (by kernel_rfl) (by kernel_rfl) a3 a2) ?_
  refine ED.Y hN hF hC 4 36 (bm 53 26596060742047) (by kernel_rfl) (by kernel_rfl) rfl (fun _ _ _ hS => YO.idxEp hS (Rd.ro 0 rfl) a0 a3 a2 50 4 0 4 1 0 .i64 15 (by kernel_rfl) (by kernel_rfl) (by kernel_rfl) (by kernel_rfl) (by kernel_rfl)) ?_
  refine ED.Y hN hF hC 5 35 (bm 53 26596060742079) (by kernel_rfl) (by kernel_rfl) rfl (fun _ _ _ hS => YO.loadEl hS kS50 a1 C25 l23 (Rd.ro 0 rfl) zS50 encS50 encS50_of a0 a3 a2 5 4 0 1 rfl (ig ((l23.getD a0.toNat zS50).f0)) 16 (by kernel_rfl) (by kernel_rfl) (by kernel_rfl) (by kernel_rfl)) ?_
  refine ED.quick hN hF hC [6] [0, 4, 11, 17, 18, 19, 25, 26, 33, 34, 40, 41, 47, 48, 54, 55] 34 [(0, sv (some a1) C25 l23), (4, ia a0), (11, sv a5 a6 a4), (17, ia (IntKind.i64.wrap ((l23.getD a0.toNat zS50).f0))), (18, sv (some a1) C25 l23), (19, ia a0), (25, sv (some a1) C25 l23), (26, ia a0), (33, sv (some a1) C25 l23), (34, ia a0), (40, sv (some a1) C25 l23), (41, ia a0), (47, sv (some a1) C25 l23), (48, ia a0), (54, sv (some a1) C25 l23), (55, ia a0)] (bm 53 26596060742143) (by kernel_rfl) (by kernel_rfl) ?_
  refine ED.Y hN hF hC 9 33 (bm 53 26596060742655) (by kernel_rfl) (by kernel_rfl) rfl (fun _ _ _ hS => YO.idx 23 4 a1 l23.length C25 .i64 a0 20 (by kernel_rfl) (by kernel_rfl) (by kernel_rfl) (by kernel_rfl) a3 a2) ?_
  refine ED.Y hN hF hC 10 32 (bm 53 26596060743679) (by kernel_rfl) (by kernel_rfl) rfl (fun _ _ _ hS => YO.idxEp hS (Rd.ro 0 rfl) a0 a3 a2 50 4 0 4 1 1 .i64 21 (by kernel_rfl) (by kernel_rfl) (by kernel_rfl) (by kernel_rfl) (by kernel_rfl)) ?_
  refine ED.Y hN hF hC 11 31 (bm 53 26596060745727) (by kernel_rfl) (by kernel_rfl) rfl (fun _ _ _ hS => YO.loadEl hS kS50 a1 C25 l23 (Rd.ro 0 rfl) zS50 encS50 encS50_of a0 a3 a2 5 4 1 1 rfl (ig ((l23.getD a0.toNat zS50).f1)) 22 (by kernel_rfl) (by kernel_rfl) (by kernel_rfl) (by kernel_rfl)) ?_
  refine ED.quick hN hF hC [12, 13] [0, 4, 11, 17, 24, 25, 26, 33, 34, 40, 41, 47, 48, 54, 55] 29 [(0, sv (some a1) C25 l23), (4, ia a0), (11, sv a5 a6 a4), (17, ia (IntKind.i64.wrap ((l23.getD a0.toNat zS50).f0))), (24, ia (IntKind.i64.wrap (Int.tmod ((l23.getD a0.toNat zS50).f1) 16))), (25, sv (some a1) C25 l23), (26, ia a0), (33, sv (some a1) C25 l23), (34, ia a0), (40, sv (some a1) C25 l23), (41, ia a0), (47, sv (some a1) C25 l23), (48, ia a0), (54, sv (some a1) C25 l23), (55, ia a0)] (bm 53 26596060758015) (by kernel_rfl) (by kernel_rfl) ?_
  refine ED.Y hN hF hC 16 28 (bm 53 26596060823551) (by kernel_rfl) (by kernel_rfl) rfl (fun _ _ _ hS => YO.idx 23 4 a1 l23.length C25 .i64 a0 27 (by kernel_rfl) (by kernel_rfl) (by kernel_rfl) (by kernel_rfl) a3 a2) ?_
  refine ED.Y hN hF hC 17 27 (bm 53 26596060954623) (by kernel_rfl) (by kernel_rfl) rfl (fun _ _ _ hS => YO.idxEp hS (Rd.ro 0 rfl) a0 a3 a2 50 4 0 4 1 2 .i64 28 (by kernel_rfl) (by kernel_rfl) (by kernel_rfl) (by kernel_rfl) (by kernel_rfl)) ?_
  refine ED.Y hN hF hC 18 26 (bm 53 26596061216767) (by kernel_rfl) (by kernel_rfl) rfl (fun _ _ _ hS => YO.loadEl hS kS50 a1 C25 l23 (Rd.ro 0 rfl) zS50 encS50 encS50_of a0 a3 a2 5 4 2 1 rfl (ig ((l23.getD a0.toNat zS50).f2)) 29 (by kernel_rfl) (by kernel_rfl) (by kernel_rfl) (by kernel_rfl)) ?_
  refine ED.quick hN hF hC [19, 20, 21] [0, 4, 11, 17, 24, 32, 33, 34, 40, 41, 47, 48, 54, 55] 23 [(0, sv (some a1) C25 l23), (4, ia a0), (11, sv a5 a6 a4), (17, ia (IntKind.i64.wrap ((l23.getD a0.toNat zS50).f0))), (24, ia (IntKind.i64.wrap (Int.tmod ((l23.getD a0.toNat zS50).f1) 16))), (32, ia (IntKind.i64.wrap ((IntKind.i64.wrap (Int.tmod ((l23.getD a0.toNat zS50).f2) 11)) + 1))), (33, sv (some a1) C25 l23), (34, ia a0), (40, sv (some a1) C25 l23), (41, ia a0), (47, sv (some a1) C25 l23), (48, ia a0), (54, sv (some a1) C25 l23), (55, ia a0)] (bm 53 26596064886783) (by kernel_rfl) (by kernel_rfl) ?_
  refine ED.Y hN hF hC 24 22 (bm 53 26596081663999) (by kernel_rfl) (by kernel_rfl) rfl (fun _ _ _ hS => YO.idx 23 4 a1 l23.length C25 .i64 a0 35 (by kernel_rfl) (by kernel_rfl) (by kernel_rfl) (by kernel_rfl) a3 a2) ?_
  refine ED.Y hN hF hC 25 21 (bm 53 26596115218431) (by kernel_rfl) (by kernel_rfl) rfl (fun _ _ _ hS => YO.idxEp hS (Rd.ro 0 rfl) a0 a3 a2 50 4 0 4 1 3 .i64 36 (by kernel_rfl) (by kernel_rfl) (by kernel_rfl) (by kernel_rfl) (by kernel_rfl)) ?_
  refine ED.Y hN hF hC 26 20 (bm 53 26596182327295) (by kernel_rfl) (by kernel_rfl) rfl (fun _ _ _ hS => YO.loadEl hS kS50 a1 C25 l23 (Rd.ro 0 rfl) zS50 encS50 encS50_of a0 a3 a2 5 4 3 1 rfl (ig ((l23.getD a0.toNat zS50).f3)) 37 (by kernel_rfl) (by kernel_rfl) (by kernel_rfl) (by kernel_rfl)) ?_
  refine ED.quick hN hF hC [27, 28] [0, 4, 11, 17, 24, 32, 39, 40, 41, 47, 48, 54, 55] 18 [(0, sv (some a1) C25 l23), (4, ia a0), (11, sv a5 a6 a4), (17, ia (IntKind.i64.wrap ((l23.getD a0.toNat zS50).f0))), (24, ia (IntKind.i64.wrap (Int.tmod ((l23.getD a0.toNat zS50).f1) 16))), (32, ia (IntKind.i64.wrap ((IntKind.i64.wrap (Int.tmod ((l23.getD a0.toNat zS50).f2) 11)) + 1))), (39, ia (IntKind.i64.wrap (Int.tmod ((l23.getD a0.toNat zS50).f3) 8))), (40, sv (some a1) C25 l23), (41, ia a0), (47, sv (some a1) C25 l23), (48, ia a0), (54, sv (some a1) C25 l23), (55, ia a0)] (bm 53 26596584980479) (by kernel_rfl) (by kernel_rfl) ?_
  refine ED.Y hN hF hC 31 17 (bm 53 26598732464127) (by kernel_rfl) (by kernel_rfl) rfl (fun _ _ _ hS => YO.idx 23 4 a1 l23.length C25 .i64 a0 42 (by kernel_rfl) (by kernel_rfl) (by kernel_rfl) (by kernel_rfl) a3 a2) ?_
  refine ED.Y hN hF hC 32 16 (bm 53 26603027431423) (by kernel_rfl) (by kernel_rfl) rfl (fun _ _ _ hS => YO.idxEp hS (Rd.ro 0 rfl) a0 a3 a2 50 4 0 4 1 0 .i64 43 (by kernel_rfl) (by kernel_rfl) (by kernel_rfl) (by kernel_rfl) (by kernel_rfl)) ?_
  refine ED.Y hN hF hC 33 15 (bm 53 26611617366015) (by kernel_rfl) (by kernel_rfl) rfl (fun _ _ _ hS => YO.loadEl hS kS50 a1 C25 l23 (Rd.ro 0 rfl) zS50 encS50 encS50_of a0 a3 a2 5 4 0 1 rfl (ig ((l23.getD a0.toNat zS50).f0)) 44 (by kernel_rfl) (by kernel_rfl) (by kernel_rfl) (by kernel_rfl)) ?_
  refine ED.quick hN hF hC [34, 35] [0, 4, 11, 17, 24, 32, 39, 46, 47, 48, 54, 55] 13 [(0, sv (some a1) C25 l23), (4, ia a0), (11, sv a5 a6 a4), (17, ia (IntKind.i64.wrap ((l23.getD a0.toNat zS50).f0))), (24, ia (IntKind.i64.wrap (Int.tmod ((l23.getD a0.toNat zS50).f1) 16))), (32, ia (IntKind.i64.wrap ((IntKind.i64.wrap (Int.tmod ((l23.getD a0.toNat zS50).f2) 11)) + 1))), (39, ia (IntKind.i64.wrap (Int.tmod ((l23.getD a0.toNat zS50).f3) 8))), (46, ib (IntKind.i32.wrap ((IntKind.i32.wrap ((l23.getD a0.toNat zS50).f0)) * 300))), (47, sv (some a1) C25 l23), (48, ia a0), (54, sv (some a1) C25 l23), (55, ia a0)] (bm 53 26663156973567) (by kernel_rfl) (by kernel_rfl) ?_
  refine ED.Y hN hF hC 38 12 (bm 53 26938034880511) (by kernel_rfl) (by kernel_rfl) rfl (fun _ _ _ hS => YO.idx 23 4 a1 l23.length C25 .i64 a0 49 (by kernel_rfl) (by kernel_rfl) (by kernel_rfl) (by kernel_rfl) a3 a2) ?_
  refine ED.Y hN hF hC 39 11 (bm 53 27487790694399) (by kernel_rfl) (by kernel_rfl) rfl (fun _ _ _ hS => YO.idxEp hS (Rd.ro 0 rfl) a0 a3 a2 50 4 0 4 1 1 .i64 50 (by kernel_rfl) (by kernel_rfl) (by kernel_rfl) (by kernel_rfl) (by kernel_rfl)) ?_
  refine ED.Y hN hF hC 40 10 (bm 53 28587302322175) (by kernel_rfl) (by kernel_rfl) rfl (fun _ _ _ hS => YO.loadEl hS kS50 a1 C25 l23 (Rd.ro 0 rfl) zS50 encS50 encS50_of a0 a3 a2 5 4 1 1 rfl (ig ((l23.getD a0.toNat zS50).f1)) 51 (by kernel_rfl) (by kernel_rfl) (by kernel_rfl) (by kernel_rfl)) ?_
  refine ED.quick hN hF hC [41, 42] [0, 4, 11, 17, 24, 32, 39, 46, 53, 54, 55] 8 [(0, sv (some a1) C25 l23), (4, ia a0), (11, sv a5 a6 a4), (17, ia (IntKind.i64.wrap ((l23.getD a0.toNat zS50).f0))), (24, ia (IntKind.i64.wrap (Int.tmod ((l23.getD a0.toNat zS50).f1) 16))), (32, ia (IntKind.i64.wrap ((IntKind.i64.wrap (Int.tmod ((l23.getD a0.toNat zS50).f2) 11)) + 1))), (39, ia (IntKind.i64.wrap (Int.tmod ((l23.getD a0.toNat zS50).f3) 8))), (46, ib (IntKind.i32.wrap ((IntKind.i32.wrap ((l23.getD a0.toNat zS50).f0)) * 300))), (53, ib (IntKind.i32.wrap ((IntKind.i32.wrap ((l23.getD a0.toNat zS50).f1)) - 128))), (54, sv (some a1) C25 l23), (55, ia a0)] (bm 53 35184372088831) (by kernel_rfl) (by kernel_rfl) ?_
  refine ED.Y hN hF hC 45 7 (bm 53 70368744177663) (by kernel_rfl) (by kernel_rfl) rfl (fun _ _ _ hS => YO.idx 23 4 a1 l23.length C25 .i64 a0 56 (by kernel_rfl) (by kernel_rfl) (by kernel_rfl) (by kernel_rfl) a3 a2) ?_
  refine ED.Y hN hF hC 46 6 (bm 53 140737488355327) (by kernel_rfl) (by kernel_rfl) rfl (fun _ _ _ hS => YO.idxEp hS (Rd.ro 0 rfl) a0 a3 a2 50 4 0 4 1 3 .i64 57 (by kernel_rfl) (by kernel_rfl) (by kernel_rfl) (by kernel_rfl) (by kernel_rfl)) ?_
  refine ED.Y hN hF hC 47 5 (bm 53 281474976710655) (by kernel_rfl) (by kernel_rfl) rfl (fun _ _ _ hS => YO.loadEl hS kS50 a1 C25 l23 (Rd.ro 0 rfl) zS50 encS50 encS50_of a0 a3 a2 5 4 3 1 rfl (ig ((l23.getD a0.toNat zS50).f3)) 58 (by kernel_rfl) (by kernel_rfl) (by kernel_rfl) (by kernel_rfl)) ?_
  refine ED.quick hN hF hC [48, 49] [0, 4, 11, 60] 3 [(0, sv (some a1) C25 l23), (4, ia a0), (11, sv a5 a6 a4), (60, ag [ia (IntKind.i64.wrap ((l23.getD a0.toNat zS50).f0)), ia (IntKind.i64.wrap (Int.tmod ((l23.getD a0.toNat zS50).f1) 16)), ia (IntKind.i64.wrap ((IntKind.i64.wrap (Int.tmod ((l23.getD a0.toNat zS50).f2) 11)) + 1)), ia (IntKind.i64.wrap (Int.tmod ((l23.getD a0.toNat zS50).f3) 8)), ib (IntKind.i32.wrap ((IntKind.i32.wrap ((l23.getD a0.toNat zS50).f0)) * 300)), ib (IntKind.i32.wrap ((IntKind.i32.wrap ((l23.getD a0.toNat zS50).f1)) - 128)), ib (IntKind.i32.wrap ((l23.getD a0.toNat zS50).f3))])] (bm 53 1125899906842623) (by kernel_rfl) (by kernel_rfl) ?_
  refine ED.one 50 2 (bm 53 2251799813685247) (by kernel_rfl) (by kernel_rfl) (by kernel_rfl) (EO.lit hS kS28 28 22 1 #[(0, ag [ia (IntKind.i64.wrap ((l23.getD a0.toNat zS50).f0)), ia (IntKind.i64.wrap (Int.tmod ((l23.getD a0.toNat zS50).f1) 16)), ia (IntKind.i64.wrap ((IntKind.i64.wrap (Int.tmod ((l23.getD a0.toNat zS50).f2) 11)) + 1)), ia (IntKind.i64.wrap (Int.tmod ((l23.getD a0.toNat zS50).f3) 8)), ib (IntKind.i32.wrap ((IntKind.i32.wrap ((l23.getD a0.toNat zS50).f0)) * 300)), ib (IntKind.i32.wrap ((IntKind.i32.wrap ((l23.getD a0.toNat zS50).f1)) - 128)), ib (IntKind.i32.wrap ((l23.getD a0.toNat zS50).f3))])] [ia (IntKind.i64.wrap ((l23.getD a0.toNat zS50).f0)), ia (IntKind.i64.wrap (Int.tmod ((l23.getD a0.toNat zS50).f1) 16)), ia (IntKind.i64.wrap ((IntKind.i64.wrap (Int.tmod ((l23.getD a0.toNat zS50).f2) 11)) + 1)), ia (IntKind.i64.wrap (Int.tmod ((l23.getD a0.toNat zS50).f3) 8)), ib (IntKind.i32.wrap ((IntKind.i32.wrap ((l23.getD a0.toNat zS50).f0)) * 300)), ib (IntKind.i32.wrap ((IntKind.i32.wrap ((l23.getD a0.toNat zS50).f1)) - 128)), ib (IntKind.i32.wrap ((l23.getD a0.toNat zS50).f3))] b0 61 (by kernel_rfl) (by kernel_rfl) (by kernel_rfl) (fun _ => (by kernel_rfl)) (by rw [b5]; rfl) (by kernel_rfl) (fun w G hr => (by rw [b5]; exact ⟨[ia (IntKind.i64.wrap ((l23.getD a0.toNat zS50).f0)), ia (IntKind.i64.wrap (Int.tmod ((l23.getD a0.toNat zS50).f1) 16)), ia (IntKind.i64.wrap ((IntKind.i64.wrap (Int.tmod ((l23.getD a0.toNat zS50).f2) 11)) + 1)), ia (IntKind.i64.wrap (Int.tmod ((l23.getD a0.toNat zS50).f3) 8)), ib (IntKind.i32.wrap ((IntKind.i32.wrap ((l23.getD a0.toNat zS50).f0)) * 300)), ib (IntKind.i32.wrap ((IntKind.i32.wrap ((l23.getD a0.toNat zS50).f1)) - 128)), ib (IntKind.i32.wrap ((l23.getD a0.toNat zS50).f3))], [], rfl, ⟨[ia (IntKind.i64.wrap ((l23.getD a0.toNat zS50).f0))], [ia (IntKind.i64.wrap (Int.tmod ((l23.getD a0.toNat zS50).f1) 16)), ia (IntKind.i64.wrap ((IntKind.i64.wrap (Int.tmod ((l23.getD a0.toNat zS50).f2) 11)) + 1)), ia (IntKind.i64.wrap (Int.tmod ((l23.getD a0.toNat zS50).f3) 8)), ib (IntKind.i32.wrap ((IntKind.i32.wrap ((l23.getD a0.toNat zS50).f0)) * 300)), ib (IntKind.i32.wrap ((IntKind.i32.wrap ((l23.getD a0.toNat zS50).f1)) - 128)), ib (IntKind.i32.wrap ((l23.getD a0.toNat zS50).f3))], rfl, rfl, ⟨[ia (IntKind.i64.wrap (Int.tmod ((l23.getD a0.toNat zS50).f1) 16))], [ia (IntKind.i64.wrap ((IntKind.i64.wrap (Int.tmod ((l23.getD a0.toNat zS50).f2) 11)) + 1)), ia (IntKind.i64.wrap (Int.tmod ((l23.getD a0.toNat zS50).f3) 8)), ib (IntKind.i32.wrap ((IntKind.i32.wrap ((l23.getD a0.toNat zS50).f0)) * 300)), ib (IntKind.i32.wrap ((IntKind.i32.wrap ((l23.getD a0.toNat zS50).f1)) - 128)), ib (IntKind.i32.wrap ((l23.getD a0.toNat zS50).f3))], rfl, rfl, ⟨[ia (IntKind.i64.wrap ((IntKind.i64.wrap (Int.tmod ((l23.getD a0.toNat zS50).f2) 11)) + 1))], [ia (IntKind.i64.wrap (Int.tmod ((l23.getD a0.toNat zS50).f3) 8)), ib (IntKind.i32.wrap ((IntKind.i32.wrap ((l23.getD a0.toNat zS50).f0)) * 300)), ib (IntKind.i32.wrap ((IntKind.i32.wrap ((l23.getD a0.toNat zS50).f1)) - 128)), ib (IntKind.i32.wrap ((l23.getD a0.toNat zS50).f3))], rfl, rfl, ⟨[ia (IntKind.i64.wrap (Int.tmod ((l23.getD a0.toNat zS50).f3) 8))], [ib (IntKind.i32.wrap ((IntKind.i32.wrap ((l23.getD a0.toNat zS50).f0)) * 300)), ib (IntKind.i32.wrap ((IntKind.i32.wrap ((l23.getD a0.toNat zS50).f1)) - 128)), ib (IntKind.i32.wrap ((l23.getD a0.toNat zS50).f3))], rfl, rfl, ⟨[ib (IntKind.i32.wrap ((IntKind.i32.wrap ((l23.getD a0.toNat zS50).f0)) * 300))], [ib (IntKind.i32.wrap ((IntKind.i32.wrap ((l23.getD a0.toNat zS50).f1)) - 128)), ib (IntKind.i32.wrap ((l23.getD a0.toNat zS50).f3))], rfl, rfl, ⟨[ib (IntKind.i32.wrap ((IntKind.i32.wrap ((l23.getD a0.toNat zS50).f1)) - 128))], [ib (IntKind.i32.wrap ((l23.getD a0.toNat zS50).f3))], rfl, rfl, ⟨[ib (IntKind.i32.wrap ((l23.getD a0.toNat zS50).f3))], [], rfl, rfl, rfl⟩⟩⟩⟩⟩⟩⟩, rfl⟩)) ?_)
  intro b4 w hS
  have hC := hC.again ⟨_, _, hS⟩
  refine ⟨hC, ?_⟩
  refine ED.one 51 1 (bm 53 4503599627370495) (by kernel_rfl) (by kernel_rfl) (by kernel_rfl) (EO.append hS 22 22 28 48 1 kS28 a5 a6 a4 rfl (some ⟨b4, 0, none⟩) 1 b0 (Rd.own 0 28 rfl) a7 b7 (fun a8 a9 => Ass.own 28 kS28 (some ⟨b4, 0, none⟩) 1 b0 :: Ass.own 28 kS28 a8 a9 a7 :: os) 62 (by kernel_rfl) (by kernel_rfl) (by kernel_rfl) (by kernel_rfl) b6 (fun _ _ => rfl) ?_)
  intro a8 a9 w hS
  have hC := hC.again ⟨_, _, hS⟩
  refine ⟨hC, ?_⟩
  refine ED.quick hN hF hC [52] [0, 3, 4] 0 [(0, sv (some a1) C25 l23), (3, sv a8 a9 a7), (4, ia a0)] (bm 53 9007199254740991) (by kernel_rfl) (by kernel_rfl) ?_
  refine ED.done (by kernel_rfl) ?_
  refine EQ.pop ?_
  refine EQ.code ?_
  refine EW.rg (by kernel_rfl) ?_
  refine EL.quick 3 [0, 3, 4] [(0, sv (some a1) C25 l23), (3, sv a8 a9 a7), (4, ia (IntKind.i64.wrap (a0 + 1)))] (by kernel_rfl) ?_
  refine EL.done (by kernel_rfl) ?_
  refine EQ.to ?_
  refine EQ.keep [0, 3, 4] [(0, sv (some a1) C25 l23), (3, sv a8 a9 a7), (4, ia (IntKind.i64.wrap (a0 + 1)))] (by kernel_rfl) ?_
  exact fun a ha => ⟨n, Nat.lt_succ_self n, a7, IntKind.i64.wrap (a0 + 1), a8, a9, ha, (hS.re [1] [1] rfl (sub_cons 0 rfl (sub_tail (sub_self)))), H⟩
 rw [if_neg a2] at H
 refine EW.exit (id := 0) (by kernel_rfl) ?_
 refine EQ.exitCode ?_
 refine EQ.exitTo ?_
 refine EQ.exitHere ?_
 refine EQ.code ?_
 refine EW.sq (by kernel_rfl) ?_
 refine EW.rg (by kernel_rfl) ?_
 refine EL.quick 2 [2] [(2, sv a5 a6 a4)] (by kernel_rfl) ?_
 refine EL.done (by kernel_rfl) ?_
 refine EQ.code ?_
 refine EW.ret (by kernel_rfl) ?_
 obtain rfl := Option.some.inj H
 exact EQ.leave (sv a5 a6 a4) (by kernel_rfl) ⟨_, rfl, a5, a6, rfl, (hS.re [0] [] rfl (sub_self))⟩

/-! ### confidant/confidantref21.SameEvents: function 17 -/
def confidantref21_SameEvents.l0 (K : Nat) (a1 : List S28) (a2 : List S28) : Nat → Int → Option Bool
 | 0, _ => none
 | n + 1, a0 => if a0 < (a1.length : Int) then (if 0 ≤ a0 then (if a0 < (a2.length : Int) then (if ((((a1.getD a0.toNat zS28).f0) == ((a2.getD a0.toNat zS28).f0)) && ((((a1.getD a0.toNat zS28).f1) == ((a2.getD a0.toNat zS28).f1)) && ((((a1.getD a0.toNat zS28).f2) == ((a2.getD a0.toNat zS28).f2)) && ((((a1.getD a0.toNat zS28).f3) == ((a2.getD a0.toNat zS28).f3)) && ((((a1.getD a0.toNat zS28).f4) == ((a2.getD a0.toNat zS28).f4)) && ((((a1.getD a0.toNat zS28).f5) == ((a2.getD a0.toNat zS28).f5)) && ((((a1.getD a0.toNat zS28).f6) == ((a2.getD a0.toNat zS28).f6)) && true))))))) = true then (confidantref21_SameEvents.l0 K a1 a2 n (IntKind.i64.wrap (a0 + 1))) else (some false)) else none) else none) else (some true)
def confidantref21_SameEvents.f (K : Nat) (a1 : List S28) (a2 : List S28) : Option Bool := if (a1.length : Int) = (a2.length : Int) then (confidantref21_SameEvents.l0 K a1 a2 K 0) else (some false)
set_option maxRecDepth 100000 in
theorem confidantref21_SameEvents.calls {K : Nat} {a1 : List S28} {a2 : List S28} {a5 : Option Addr} {a3 : Nat} {a6 : Option Addr} {a4 : Nat} {b4 : Bool} {B w : World} {os : List Ass} {rs : List Ro} (H : confidantref21_SameEvents.f K a1 a2 = some b4) (hS : St B w (os) (Ro.sl kS28 a5 a3 a1 :: Ro.sl kS28 a6 a4 a2 :: rs)) :
  Calls Tryd.prog 17 [sv a5 a3 a1, sv a6 a4 a2].toArray w (fun en w' => ∃ v, en = .returned v ∧ v = .bool (b4) ∧ St B w' (os) (Ro.sl kS28 a5 a3 a1 :: Ro.sl kS28 a6 a4 a2 :: rs)) := by
 unfold confidantref21_SameEvents.f at H
 refine calls_of_EW (args := [sv a5 a3 a1, sv a6 a4 a2]) (c := Cd17) 26 Tryd.func17 (by kernel_rfl) (by kernel_rfl) (by kernel_rfl) ?_
 refine EW.sq (by kernel_rfl) ?_
 refine EW.rg (by kernel_rfl) ?_
 refine EL.quick 1 [0, 1] [(0, sv a5 a3 a1), (1, sv a6 a4 a2)] (by kernel_rfl) ?_
 refine EL.done (by kernel_rfl) ?_
 refine EQ.code ?_
 refine EW.sq (by kernel_rfl) ?_
 refine EW.sq (by kernel_rfl) ?_
 refine EW.rg (by kernel_rfl) ?_
 refine EL.quick 5 [0, 1, 10] [(0, sv a5 a3 a1), (1, sv a6 a4 a2), (10, .bool (!(decide ((a1.length : Int) = (a2.length : Int)))))] (by kernel_rfl) ?_
 refine EL.done (by kernel_rfl) ?_
 refine EQ.code ?_
 refine EW.cdQ (b := !(decide ((a1.length : Int) = (a2.length : Int)))) ((a1.length : Int) = (a2.length : Int)) (false) (by kernel_rfl) (by kernel_rfl) ⟨fun h => (by rw [decide_eq_true h] <;> rfl), fun h => (by rw [decide_eq_false h] <;> rfl)⟩ (fun b1 => ?_) (fun b1 => ?_)
 ·rw [if_pos b1] at H
  refine EW.skip (by kernel_rfl) ?_
  refine EQ.code ?_
  refine EW.sq (by kernel_rfl) ?_
  refine EW.sq (by kernel_rfl) ?_
  refine EW.rg (by kernel_rfl) ?_
  refine EL.quick 1 [0, 1, 5] [(0, sv a5 a3 a1), (1, sv a6 a4 a2), (5, ia 0)] (by kernel_rfl) ?_
  refine EL.done (by kernel_rfl) ?_
  refine EQ.code ?_
  refine EW.bl 0 (by kernel_rfl) ?_
  refine EW.lp (fun n a w => ∃ a0 : Int, Sat 26 [(0, sv a5 a3 a1), (1, sv a6 a4 a2), (5, ia a0)] a ∧ St B w (os) (Ro.sl kS28 a5 a3 a1 :: Ro.sl kS28 a6 a4 a2 :: rs) ∧ confidantref21_SameEvents.l0 K a1 a2 n a0 = some b4) K (by kernel_rfl) ?_ (fun n a w hI => ?_)
  ·refine EQ.keep [0, 1, 5] [(0, sv a5 a3 a1), (1, sv a6 a4 a2), (5, ia 0)] (by kernel_rfl) ?_
   exact fun a ha => ⟨0, ha, (hS.re [] [] rfl (sub_cons 0 rfl (sub_cons 1 rfl (sub_tail (sub_tail (sub_self)))))), H⟩
  obtain ⟨a0, ha, hS, H⟩ := hI
  obtain _ | n := n
  ·simp [confidantref21_SameEvents.l0] at H
  rw [confidantref21_SameEvents.l0.eq_2] at H
  refine EW.at ?_ a ha
  clear ha a
  refine EW.sq (by kernel_rfl) ?_
  refine EW.sq (by kernel_rfl) ?_
  refine EW.rg (by kernel_rfl) ?_
  refine EL.quick 4 [0, 1, 5, 14] [(0, sv a5 a3 a1), (1, sv a6 a4 a2), (5, ia a0), (14, .bool (decide (a0 < (a1.length : Int))))] (by kernel_rfl) ?_
  refine EL.done (by kernel_rfl) ?_
  refine EQ.code ?_
  refine EW.cdP (a0 < (a1.length : Int)) (by kernel_rfl) (by kernel_rfl) (fun a9 => ?_) (fun a9 => ?_)
  ·rw [if_pos a9] at H
   refine EW.skip (by kernel_rfl) ?_
   refine EQ.code ?_
   refine EW.sq (by kernel_rfl) ?_
   refine EW.bl 1 (by kernel_rfl) ?_
   refine EW.sq (by kernel_rfl) ?_
   obtain ⟨b0, H⟩ := ite_in H
   obtain ⟨a7, rfl⟩ := St.rd_some hS (Rd.ro 0 rfl) b0 a9
   obtain ⟨b2, H⟩ := ite_in H
   obtain ⟨a8, rfl⟩ := St.rd_some hS (Rd.ro 1 rfl) b0 b2
   have hS := hS.drew
   refine EW.dr (B := B) [] [Ro.sl kS28 (some a7) a3 a1, Ro.sl kS28 (some a8) a4 a2] (by kernel_rfl) (by kernel_rfl) ?_
   have hN : Region.noSelect Cd17.r.r.l.r.l.l.r.l.l.l.ops = true := (by kernel_rfl)
   have hF : freeAll Cd17.r.r.l.r.l.l.r.l.l.l.ops = true := (by kernel_rfl)
   have hC : Core B [] [Ro.sl kS28 (some a7) a3 a1, Ro.sl kS28 (some a8) a4 a2] _ := ⟨_, _, hS⟩
   refine ED.quick hN hF hC [0, 1, 4, 5] [0, 1, 5, 17, 18, 21, 22] 5 [(0, sv (some a7) a3 a1), (1, sv (some a8) a4 a2), (5, ia a0), (17, sv (some a7) a3 a1), (18, ia a0), (21, sv (some a8) a4 a2), (22, ia a0)] (bm 9 51) (by kernel_rfl) (by kernel_rfl) ?_
   refine ED.Y hN hF hC 2 4 (bm 9 55) (by kernel_rfl) (by kernel_rfl) rfl (fun _ _ _ hS => YO.idx 22 7 a7 a1.length a3 .i64 a0 19 (by kernel_rfl) (by kernel_rfl) (by kernel_rfl) (by kernel_rfl) b0 a9) ?_
   refine ED.Y hN hF hC 3 3 (bm 9 63) (by kernel_rfl) (by kernel_rfl) rfl (fun _ _ _ hS => YO.loadEl hS kS28 a7 a3 a1 (Rd.ro 0 rfl) zS28 encS28 encS28_of a0 b0 a9 28 7 0 7 rfl (ag (encS28 (a1.getD a0.toNat zS28))) 20 (by kernel_rfl) (by kernel_rfl) (by kernel_rfl) (by kernel_rfl)) ?_
   refine ED.Y hN hF hC 6 2 (bm 9 127) (by kernel_rfl) (by kernel_rfl) rfl (fun _ _ _ hS => YO.idx 22 7 a8 a2.length a4 .i64 a0 23 (by kernel_rfl) (by kernel_rfl) (by kernel_rfl) (by kernel_rfl) b0 b2) ?_
   refine ED.Y hN hF hC 7 1 (bm 9 255) (by kernel_rfl) (by kernel_rfl) rfl (fun _ _ _ hS => YO.loadEl hS kS28 a8 a4 a2 (Rd.ro 1 rfl) zS28 encS28 encS28_of a0 b0 b2 28 7 0 7 rfl (ag (encS28 (a2.getD a0.toNat zS28))) 24 (by kernel_rfl) (by kernel_rfl) (by kernel_rfl) (by kernel_rfl)) ?_
   refine ED.Y hN hF hC 8 0 (bm 9 511) (by kernel_rfl) (by kernel_rfl) rfl (fun _ _ _ hS => YO.eqAg .neq 28 (.tmp 20) (.tmp 24) #[ia ((a1.getD a0.toNat zS28).f0), ia ((a1.getD a0.toNat zS28).f1), ia ((a1.getD a0.toNat zS28).f2), ia ((a1.getD a0.toNat zS28).f3), ib ((a1.getD a0.toNat zS28).f4), ib ((a1.getD a0.toNat zS28).f5), ib ((a1.getD a0.toNat zS28).f6)] #[ia ((a2.getD a0.toNat zS28).f0), ia ((a2.getD a0.toNat zS28).f1), ia ((a2.getD a0.toNat zS28).f2), ia ((a2.getD a0.toNat zS28).f3), ib ((a2.getD a0.toNat zS28).f4), ib ((a2.getD a0.toNat zS28).f5), ib ((a2.getD a0.toNat zS28).f6)] ((((a1.getD a0.toNat zS28).f0) == ((a2.getD a0.toNat zS28).f0)) && ((((a1.getD a0.toNat zS28).f1) == ((a2.getD a0.toNat zS28).f1)) && ((((a1.getD a0.toNat zS28).f2) == ((a2.getD a0.toNat zS28).f2)) && ((((a1.getD a0.toNat zS28).f3) == ((a2.getD a0.toNat zS28).f3)) && ((((a1.getD a0.toNat zS28).f4) == ((a2.getD a0.toNat zS28).f4)) && ((((a1.getD a0.toNat zS28).f5) == ((a2.getD a0.toNat zS28).f5)) && ((((a1.getD a0.toNat zS28).f6) == ((a2.getD a0.toNat zS28).f6)) && true))))))) (!(((((a1.getD a0.toNat zS28).f0) == ((a2.getD a0.toNat zS28).f0)) && ((((a1.getD a0.toNat zS28).f1) == ((a2.getD a0.toNat zS28).f1)) && ((((a1.getD a0.toNat zS28).f2) == ((a2.getD a0.toNat zS28).f2)) && ((((a1.getD a0.toNat zS28).f3) == ((a2.getD a0.toNat zS28).f3)) && ((((a1.getD a0.toNat zS28).f4) == ((a2.getD a0.toNat zS28).f4)) && ((((a1.getD a0.toNat zS28).f5) == ((a2.getD a0.toNat zS28).f5)) && ((((a1.getD a0.toNat zS28).f6) == ((a2.getD a0.toNat zS28).f6)) && true))))))))) 25 (by kernel_rfl) (by kernel_rfl) (by kernel_rfl) (by kernel_rfl) (by kernel_rfl) (.inr ⟨rfl, rfl⟩)) ?_
   refine ED.done (by kernel_rfl) ?_
   refine EQ.code ?_
   refine EW.cdQ (b := !(((((a1.getD a0.toNat zS28).f0) == ((a2.getD a0.toNat zS28).f0)) && ((((a1.getD a0.toNat zS28).f1) == ((a2.getD a0.toNat zS28).f1)) && ((((a1.getD a0.toNat zS28).f2) == ((a2.getD a0.toNat zS28).f2)) && ((((a1.getD a0.toNat zS28).f3) == ((a2.getD a0.toNat zS28).f3)) && ((((a1.getD a0.toNat zS28).f4) == ((a2.getD a0.toNat zS28).f4)) && ((((a1.getD a0.toNat zS28).f5) == ((a2.getD a0.toNat zS28).f5)) && ((((a1.getD a0.toNat zS28).f6) == ((a2.getD a0.toNat zS28).f6)) && true))))))))) (((((a1.getD a0.toNat zS28).f0) == ((a2.getD a0.toNat zS28).f0)) && ((((a1.getD a0.toNat zS28).f1) == ((a2.getD a0.toNat zS28).f1)) && ((((a1.getD a0.toNat zS28).f2) == ((a2.getD a0.toNat zS28).f2)) && ((((a1.getD a0.toNat zS28).f3) == ((a2.getD a0.toNat zS28).f3)) && ((((a1.getD a0.toNat zS28).f4) == ((a2.getD a0.toNat zS28).f4)) && ((((a1.getD a0.toNat zS28).f5) == ((a2.getD a0.toNat zS28).f5)) && ((((a1.getD a0.toNat zS28).f6) == ((a2.getD a0.toNat zS28).f6)) && true))))))) = true) (false) (by kernel_rfl) (by kernel_rfl) ⟨fun h => (by rw [h] <;> rfl), fun h => (by rw [Bool.eq_false_iff.2 h] <;> rfl)⟩ (fun b3 => ?_) (fun b3 => ?_)
   ·rw [if_pos b3] at H
    refine EW.skip (by kernel_rfl) ?_
    refine EQ.pop ?_
    refine EQ.code ?_
    refine EW.rg (by kernel_rfl) ?_
    refine EL.quick 3 [0, 1, 5] [(0, sv (some a7) a3 a1), (1, sv (some a8) a4 a2), (5, ia (IntKind.i64.wrap (a0 + 1)))] (by kernel_rfl) ?_
    refine EL.done (by kernel_rfl) ?_
    refine EQ.to ?_
    refine EQ.keep [0, 1, 5] [(0, sv (some a7) a3 a1), (1, sv (some a8) a4 a2), (5, ia (IntKind.i64.wrap (a0 + 1)))] (by kernel_rfl) ?_
    exact fun a ha => ⟨n, Nat.lt_succ_self n, IntKind.i64.wrap (a0 + 1), ha, (hS.re [] [] rfl (sub_cons 0 rfl (sub_cons 1 rfl (sub_tail (sub_tail (sub_self)))))), H⟩
   rw [if_neg b3] at H
   refine EW.sq (by kernel_rfl) ?_
   refine EW.rg (by kernel_rfl) ?_
   refine EL.quick 1 [4] [(4, .bool (false))] (by kernel_rfl) ?_
   refine EL.done (by kernel_rfl) ?_
   refine EQ.code ?_
   refine EW.ret (by kernel_rfl) ?_
   refine EQ.ret ?_
   refine EQ.ret ?_
   refine EQ.ret ?_
   refine EQ.ret ?_
   refine EQ.ret ?_
   obtain rfl := Option.some.inj H
   exact EQ.leave (.bool (false)) (by kernel_rfl) ⟨_, rfl, rfl, (hS.re [] [] rfl (sub_self))⟩
  rw [if_neg a9] at H
  refine EW.exit (id := 0) (by kernel_rfl) ?_
  refine EQ.exitCode ?_
  refine EQ.exitTo ?_
  refine EQ.exitHere ?_
  refine EQ.code ?_
  refine EW.sq (by kernel_rfl) ?_
  refine EW.rg (by kernel_rfl) ?_
  refine EL.quick 1 [4] [(4, .bool (true))] (by kernel_rfl) ?_
  refine EL.done (by kernel_rfl) ?_
  refine EQ.code ?_
  refine EW.ret (by kernel_rfl) ?_
  obtain rfl := Option.some.inj H
  exact EQ.leave (.bool (true)) (by kernel_rfl) ⟨_, rfl, rfl, (hS.re [] [] rfl (sub_self))⟩
 rw [if_neg b1] at H
 refine EW.sq (by kernel_rfl) ?_
 refine EW.rg (by kernel_rfl) ?_
 refine EL.quick 1 [4] [(4, .bool (false))] (by kernel_rfl) ?_
 refine EL.done (by kernel_rfl) ?_
 refine EQ.code ?_
 refine EW.ret (by kernel_rfl) ?_
 refine EQ.ret ?_
 obtain rfl := Option.some.inj H
 exact EQ.leave (.bool (false)) (by kernel_rfl) ⟨_, rfl, rfl, (hS.re [] [] rfl (sub_self))⟩

end Go.Proofs.YtocdpimpkifdmaaDoor.G
