import Derived.Test.YtiilloijkbabbaaDoorProg
import Derived.Test.YtiilloijkbabbaaDoorFwShort
import Derived.Test.YtiilloijkbabbaaDoorFwOpen
import Derived.Test.YtiilloijkbabbaaDoorDoor
import Derived.Test.YtiilloijkbabbaaDoorG0
import Derived.Test.YtiilloijkbabbaaDoorG1
import Derived.Test.YtiilloijkbabbaaDoorG2
namespace Go.Proofs.YtiilloijkbabbaaDoor.G
open Go Go.Fw Go.RowKit Go.Proofs
set_option linter.unusedVariables false
set_option linter.unusedSimpArgs false

/-! ### confidant/confidantlaw7.ImageSames: function 4 -/
def confidantlaw7_ImageSames.f (K : Nat) (l8 : List Int) (a11 : Int) (a12 : Int) (a13 : Int) (a14 : Int) : Option Bool := b1 (confidantlaw7_known.f K) fun (e2 : Bool) => (if e2 = true then (if (l8.length : Int) > 40 then (some true) else (b1 (confidantseat_Code.f K l8 3 3 1 false) fun (a0 : List (List S27)) => (if (([] : List (List S27)).length + a0.length) * 24 ≤ 140737488355328 then (lt (([] : List (List S27)) ++ a0) fun a1 => (if (a1.length : Int) = 0 then none else (if 0 ≤ (Int.tmod (IntKind.i64.wrap a11) (a1.length : Int)) then (if (Int.tmod (IntKind.i64.wrap a11) (a1.length : Int)) < (a1.length : Int) then (if (([] : List S27).length + (a1.getD (Int.tmod (IntKind.i64.wrap a11) (a1.length : Int)).toNat []).length) * 16 ≤ 140737488355328 then (lt (([] : List S27) ++ (a1.getD (Int.tmod (IntKind.i64.wrap a11) (a1.length : Int)).toNat [])) fun a8 => (if (a8.length : Int) = 0 then none else (if 0 ≤ (Int.tmod (IntKind.i64.wrap a12) (a8.length : Int)) then (if (Int.tmod (IntKind.i64.wrap a12) (a8.length : Int)) < (a8.length : Int) then (lt (a8.set (Int.tmod (IntKind.i64.wrap a12) (a8.length : Int)).toNat (⟨a13, a14⟩ : S27)) fun b4 => (lt (a1.set (Int.tmod (IntKind.i64.wrap a11) (a1.length : Int)).toNat b4) fun a6 => (if (Int.tmod (IntKind.i64.wrap a11) (a1.length : Int)) < (a0.length : Int) then (if ((a0.getD (Int.tmod (IntKind.i64.wrap a11) (a1.length : Int)).toNat []).length : Int) = 0 then none else (if 0 ≤ (Int.tmod (IntKind.i64.wrap a12) ((a0.getD (Int.tmod (IntKind.i64.wrap a11) (a1.length : Int)).toNat []).length : Int)) then (if (Int.tmod (IntKind.i64.wrap a12) ((a0.getD (Int.tmod (IntKind.i64.wrap a11) (a1.length : Int)).toNat []).length : Int)) < ((a0.getD (Int.tmod (IntKind.i64.wrap a11) (a1.length : Int)).toNat []).length : Int) then (lt (fun (d4 : Bool) => (if d4 = true then (some false) else (b2 (image_Put.f K a0) fun (b5 : List Int) (j4 : Int) => (b2 (image_Put.f K a6) fun (b7 : List Int) (c8 : Int) => (if c8 = 0 then (if (((bStr b5).toList == (bStr b7).toList) == (((((a0.getD (Int.tmod (IntKind.i64.wrap a11) (a1.length : Int)).toNat []).getD (Int.tmod (IntKind.i64.wrap a12) ((a0.getD (Int.tmod (IntKind.i64.wrap a11) (a1.length : Int)).toNat []).length : Int)).toNat zS27).f0) == a13) && (((((a0.getD (Int.tmod (IntKind.i64.wrap a11) (a1.length : Int)).toNat []).getD (Int.tmod (IntKind.i64.wrap a12) ((a0.getD (Int.tmod (IntKind.i64.wrap a11) (a1.length : Int)).toNat []).length : Int)).toNat zS27).f1) == a14) && true))) = true then (b1 (image_Text.f K a0) fun (e4 : ByteArray) => (b1 (image_Text.f K a6) fun (f2 : ByteArray) => (some ((e4.toList == f2.toList) == (((((a0.getD (Int.tmod (IntKind.i64.wrap a11) (a1.length : Int)).toNat []).getD (Int.tmod (IntKind.i64.wrap a12) ((a0.getD (Int.tmod (IntKind.i64.wrap a11) (a1.length : Int)).toNat []).length : Int)).toNat zS27).f0) == a13) && (((((a0.getD (Int.tmod (IntKind.i64.wrap a11) (a1.length : Int)).toNat []).getD (Int.tmod (IntKind.i64.wrap a12) ((a0.getD (Int.tmod (IntKind.i64.wrap a11) (a1.length : Int)).toNat []).length : Int)).toNat zS27).f1) == a14) && true)))))) else (some false)) else (some true)))))) fun e0 => (b1 (image_Same.f K a0 a6) fun (d2 : Bool) => (if (d2 == (((((a0.getD (Int.tmod (IntKind.i64.wrap a11) (a1.length : Int)).toNat []).getD (Int.tmod (IntKind.i64.wrap a12) ((a0.getD (Int.tmod (IntKind.i64.wrap a11) (a1.length : Int)).toNat []).length : Int)).toNat zS27).f0) == a13) && (((((a0.getD (Int.tmod (IntKind.i64.wrap a11) (a1.length : Int)).toNat []).getD (Int.tmod (IntKind.i64.wrap a12) ((a0.getD (Int.tmod (IntKind.i64.wrap a11) (a1.length : Int)).toNat []).length : Int)).toNat zS27).f1) == a14) && true))) = true then (if (([] : List (List S27)).length + a0.length) * 24 ≤ 140737488355328 then (lt (([] : List (List S27)) ++ a0) fun c7 => (b1 (image_Same.f K a0 c7) fun (d3 : Bool) => (if d3 = true then (if (1 : Int) ≤ (a0.length : Int) then (lt (a0.drop 1) fun e1 => (b1 (image_Same.f K a0 e1) fun (e3 : Bool) => (e0 e3))) else none) else (e0 true)))) else none) else (e0 true)))) else none) else none)) else none))) else none) else none))) else none) else none) else none))) else none))) else (some false))
set_option maxRecDepth 100000 in
theorem confidantlaw7_ImageSames.calls {K : Nat} {l8 : List Int} {a11 : Int} {a12 : Int} {a13 : Int} {a14 : Int} {A9 : Option Addr} {C10 : Nat} {f7 : Bool} {B w : World} {os : List Ass} {rs : List Ro} (H : confidantlaw7_ImageSames.f K l8 a11 a12 a13 a14 = some f7) (hS : St B w (os) (Ro.sl (Kd.int .u8) A9 C10 l8 :: rs)) (gB : Glob B) :
  Calls Tryd.prog 4 [sv A9 C10 l8, ig a11, ig a12, ag [ia a13, ib a14]].toArray w (fun en w' => ∃ v, en = .returned v ∧ v = .bool (f7) ∧ St B w' (os) (Ro.sl (Kd.int .u8) A9 C10 l8 :: rs)) := by
 unfold confidantlaw7_ImageSames.f at H
 refine calls_of_EW (args := [sv A9 C10 l8, ig a11, ig a12, ag [ia a13, ib a14]]) (c := Cd4) 117 Tryd.func4 (by kernel_rfl) (by kernel_rfl) (by kernel_rfl) ?_
 refine EW.sq (by kernel_rfl) ?_
 refine EW.rg (by kernel_rfl) ?_
 refine EL.of (EO.box hS 27 (ag [ia a13, ib a14]) [ia a13, ib a14] 7 (by kernel_rfl) (by kernel_rfl) (by kernel_rfl) (by first | rfl | kernel_rfl) ?_)
 intro a7 w hS
 refine EL.quick 1 [0, 1, 2, 7] [(0, sv A9 C10 l8), (1, ig a11), (2, ig a12), (7, pt a7 0)] (by kernel_rfl) ?_
 refine EL.done (by kernel_rfl) ?_
 refine EQ.code ?_
 refine EW.sq (by kernel_rfl) ?_
 refine EW.sq (by kernel_rfl) ?_
 refine EW.rg (by kernel_rfl) ?_
 obtain ⟨e2, i0, H⟩ := b1_out H
 have hq := confidantlaw7_known.calls i0 hS gB
 refine EL.of (EO.callD 5 [] _ 17 (by kernel_rfl) (by kernel_rfl) (by kernel_rfl) hq ?_)
 rintro v w ⟨rfl, hS⟩
 refine EL.quick 1 [0, 1, 2, 7, 18] [(0, sv A9 C10 l8), (1, ig a11), (2, ig a12), (7, pt a7 0), (18, .bool (!(e2)))] (by kernel_rfl) ?_
 refine EL.done (by kernel_rfl) ?_
 refine EQ.code ?_
 refine EW.cdQ (b := !(e2)) (e2 = true) (false) (by kernel_rfl) (by kernel_rfl) ⟨fun h => (by rw [h] <;> rfl), fun h => (by rw [Bool.eq_false_iff.2 h] <;> rfl)⟩ (fun f4 => ?_) (fun f4 => ?_)
 ·rw [if_pos f4] at H
  refine EW.skip (by kernel_rfl) ?_
  refine EQ.code ?_
  refine EW.sq (by kernel_rfl) ?_
  refine EW.sq (by kernel_rfl) ?_
  refine EW.rg (by kernel_rfl) ?_
  refine EL.quick 3 [0, 1, 2, 7, 21] [(0, sv A9 C10 l8), (1, ig a11), (2, ig a12), (7, pt a7 0), (21, .bool (decide ((l8.length : Int) > 40)))] (by kernel_rfl) ?_
  refine EL.done (by kernel_rfl) ?_
  refine EQ.code ?_
  refine EW.cdP ((l8.length : Int) > 40) (by kernel_rfl) (by kernel_rfl) (fun f5 => ?_) (fun f5 => ?_)
  ·rw [if_pos f5] at H
   refine EW.sq (by kernel_rfl) ?_
   refine EW.rg (by kernel_rfl) ?_
   refine EL.quick 1 [8] [(8, .bool (true))] (by kernel_rfl) ?_
   refine EL.done (by kernel_rfl) ?_
   refine EQ.code ?_
   refine EW.ret (by kernel_rfl) ?_
   refine EQ.ret ?_
   obtain rfl := Option.some.inj H
   exact EQ.leave (.bool (true)) (by kernel_rfl) ⟨_, rfl, rfl, (hS.re [] [0] rfl (sub_self))⟩
  rw [if_neg f5] at H
  refine EW.skip (by kernel_rfl) ?_
  refine EQ.code ?_
  refine EW.sq (by kernel_rfl) ?_
  refine EW.rg (by kernel_rfl) ?_
  refine EL.quick 1 [1, 2, 7, 22] [(1, ig a11), (2, ig a12), (7, pt a7 0), (22, sv A9 C10 l8)] (by kernel_rfl) ?_
  have hS : St B _ (Ass.box 27 a7 [ia a13, ib a14] :: os) (Ro.sl (Kd.int .u8) A9 C10 l8 :: rs) := hS.re [] [] rfl (sub_cons 0 rfl (sub_tail (sub_self)))
  obtain ⟨a0, i1, H⟩ := b1_out H
  have hq := confidantseat_Code.calls i1 hS
  refine EL.of (EO.callD 8 [sv A9 C10 l8, ia 3, ia 3, ia 1, .bool (false)] _ 23 (by kernel_rfl) (by kernel_rfl) (by kernel_rfl) hq ?_)
  rintro v w ⟨b3, a2, rfl, hS⟩
  refine EL.quick 1 [1, 2, 7, 9] [(1, ig a11), (2, ig a12), (7, pt a7 0), (9, sv b3 a2 a0)] (by kernel_rfl) ?_
  refine EL.done (by kernel_rfl) ?_
  refine EQ.code ?_
  refine EW.sq (by kernel_rfl) ?_
  refine EW.rg (by kernel_rfl) ?_
  refine EL.quick 1 [1, 2, 7, 9, 24] [(1, ig a11), (2, ig a12), (7, pt a7 0), (9, sv b3 a2 a0), (24, sv b3 a2 a0)] (by kernel_rfl) ?_
  have hS := St.frDeep hS 0 rfl
  have hS := St.nilO hS 25 (Kd.slice kS27)
  obtain ⟨g6, H⟩ := ite_in H
  obtain ⟨a1, j0, H⟩ := lt_out H
  refine EL.of (EO.append hS 24 24 25 24 0 (Kd.slice kS27) none 0 ([] : List (List S27)) rfl b3 a2 a0 (Rd.ro 0 rfl) a1 j0 (fun c5 a3 => Ass.own 25 (Kd.slice kS27) c5 a3 a1 :: Ass.box 27 a7 [ia a13, ib a14] :: os) 25 (by kernel_rfl) (by kernel_rfl) (by kernel_rfl) (by kernel_rfl) g6 (fun _ _ => rfl) ?_)
  intro c5 a3 w hS
  refine EL.quick 1 [1, 2, 7, 9, 10] [(1, ig a11), (2, ig a12), (7, pt a7 0), (9, sv b3 a2 a0), (10, sv c5 a3 a1)] (by kernel_rfl) ?_
  refine EL.done (by kernel_rfl) ?_
  refine EQ.code ?_
  refine EW.sq (by kernel_rfl) ?_
  refine EW.rg (by kernel_rfl) ?_
  refine EL.quick 4 [2, 7, 9, 10, 27, 29] [(2, ig a12), (7, pt a7 0), (9, sv b3 a2 a0), (10, sv c5 a3 a1), (27, ia (IntKind.i64.wrap a11)), (29, ia (a1.length : Int))] (by kernel_rfl) ?_
  obtain ⟨g7, H⟩ := ite_out H
  refine EL.of (EO.Y (YO.div .rem .i64 (IntKind.i64.wrap a11) (a1.length : Int) (Int.tmod (IntKind.i64.wrap a11) (a1.length : Int)) 30 (by kernel_rfl) (by kernel_rfl) (by kernel_rfl) g7 (by first | exact .inl ⟨rfl, rfl⟩ | exact .inr ⟨rfl, rfl⟩)) ?_)
  refine EL.quick 1 [2, 7, 9, 10, 11] [(2, ig a12), (7, pt a7 0), (9, sv b3 a2 a0), (10, sv c5 a3 a1), (11, ia (Int.tmod (IntKind.i64.wrap a11) (a1.length : Int)))] (by kernel_rfl) ?_
  refine EL.done (by kernel_rfl) ?_
  refine EQ.code ?_
  refine EW.sq (by kernel_rfl) ?_
  refine EW.rg (by kernel_rfl) ?_
  refine EL.quick 4 [2, 7, 9, 10, 11, 31, 32, 33, 34] [(2, ig a12), (7, pt a7 0), (9, sv b3 a2 a0), (10, sv c5 a3 a1), (11, ia (Int.tmod (IntKind.i64.wrap a11) (a1.length : Int))), (31, sv c5 a3 a1), (32, ia (Int.tmod (IntKind.i64.wrap a11) (a1.length : Int))), (33, sv c5 a3 a1), (34, ia (Int.tmod (IntKind.i64.wrap a11) (a1.length : Int)))] (by kernel_rfl) ?_
  obtain ⟨b6, H⟩ := ite_in H
  obtain ⟨c4, H⟩ := ite_in H
  obtain ⟨a4, rfl⟩ := St.rd_some hS (Rd.own 0 25 rfl) b6 c4
  refine EL.of (EO.Y (YO.idx 24 1 a4 a1.length a3 .i64 (Int.tmod (IntKind.i64.wrap a11) (a1.length : Int)) 35 (by kernel_rfl) (by kernel_rfl) (by kernel_rfl) (by kernel_rfl) b6 c4) ?_)
  refine EL.of (EO.loadSl hS kS27 a4 a3 a1 (Rd.own 0 25 rfl) (Int.tmod (IntKind.i64.wrap a11) (a1.length : Int)) b6 c4 25 36 (by kernel_rfl) (by kernel_rfl) (by kernel_rfl) (by kernel_rfl) ?_)
  intro b8 b9 hS
  have hS := St.nilO hS 27 kS27
  obtain ⟨g8, H⟩ := ite_in H
  obtain ⟨a8, j1, H⟩ := lt_out H
  refine EL.of (EO.append hS 25 25 27 16 0 kS27 none 0 ([] : List S27) rfl b8 b9 (a1.getD (Int.tmod (IntKind.i64.wrap a11) (a1.length : Int)).toNat []) (Rd.ro 0 rfl) a8 j1 (fun d5 a9 => Ass.own 27 kS27 d5 a9 a8 :: Ass.own 25 (Kd.slice kS27) (some a4) a3 a1 :: Ass.box 27 a7 [ia a13, ib a14] :: os) 37 (by kernel_rfl) (by kernel_rfl) (by kernel_rfl) (by kernel_rfl) g8 (fun _ _ => rfl) ?_)
  intro d5 a9 w hS
  refine EL.of (EO.Y (YO.idx 24 1 a4 a1.length a3 .i64 (Int.tmod (IntKind.i64.wrap a11) (a1.length : Int)) 38 (by kernel_rfl) (by kernel_rfl) (by kernel_rfl) (by kernel_rfl) b6 c4) ?_)
  refine EL.of (EO.pinEl hS 1 kS27 25 a4 a3 a1 rfl (Int.tmod (IntKind.i64.wrap a11) (a1.length : Int)) b6 c4 25 d5 a8.length a9 (Ass.own 27 kS27 d5 a9 a8 :: Ass.pin 25 kS27 (some a4) a3 a1 (Int.tmod (IntKind.i64.wrap a11) (a1.length : Int)).toNat (d5, a8.length, a9) :: Ass.box 27 a7 [ia a13, ib a14] :: os) (by kernel_rfl) (by kernel_rfl) (by kernel_rfl) (by kernel_rfl) rfl ?_)
  intro w hS
  refine EL.done (by kernel_rfl) ?_
  refine EQ.code ?_
  refine EW.sq (by kernel_rfl) ?_
  obtain ⟨g3, H⟩ := ite_out H
  obtain ⟨d8, H⟩ := ite_in H
  obtain ⟨d9, H⟩ := ite_in H
  obtain ⟨b0, rfl⟩ := St.rd_some hS (Rd.own 0 27 rfl) d8 d9
  obtain ⟨b4, d1, H⟩ := lt_out H
  obtain ⟨a6, e9, H⟩ := lt_out H
  refine EW.mt (fun a w => Sat 117 [(2, ig a12), (7, pt a7 0), (9, sv b3 a2 a0), (10, sv (some a4) a3 a6), (11, ia (Int.tmod (IntKind.i64.wrap a11) (a1.length : Int)))] a ∧ St B w (Ass.own 25 (Kd.slice kS27) (some a4) a3 a6 :: Ass.box 27 a7 [ia a13, ib a14] :: os) (Ro.sl kS27 (some b0) a9 b4 :: Ro.sl kS27 b8 b9 (a1.getD (Int.tmod (IntKind.i64.wrap a11) (a1.length : Int)).toNat []) :: Ro.sl (Kd.slice kS27) b3 a2 a0 :: Ro.sl (Kd.int .u8) A9 C10 l8 :: rs)) (by kernel_rfl) ?_ (fun a w hI => ?_)
  ·have hS := hS.drew
   refine EW.dr (B := B) [Ass.box 27 a7 [ia a13, ib a14]] [Ro.sl kS27 b8 b9 (a1.getD (Int.tmod (IntKind.i64.wrap a11) (a1.length : Int)).toNat []), Ro.sl (Kd.slice kS27) b3 a2 a0, Ro.sl (Kd.int .u8) A9 C10 l8] (by kernel_rfl) (by kernel_rfl) ?_
   have hN : Region.noSelect Cd4.r.r.r.r.r.r.r.l.ops = true := (by kernel_rfl)
   have hF : freeAll Cd4.r.r.r.r.r.r.r.l.ops = true := (by kernel_rfl)
   have hC : Core B [Ass.box 27 a7 [ia a13, ib a14]] [Ro.sl kS27 b8 b9 (a1.getD (Int.tmod (IntKind.i64.wrap a11) (a1.length : Int)).toNat []), Ro.sl (Kd.slice kS27) b3 a2 a0, Ro.sl (Kd.int .u8) A9 C10 l8] _ := ⟨_, _, hS.re [2] [] rfl sub_self⟩
   refine ED.quick hN hF hC [0, 1, 4, 5, 6, 7] [2, 7, 9, 10, 11, 39, 40, 44, 45, 46] 9 [(2, ig a12), (7, pt a7 0), (9, sv b3 a2 a0), (10, sv (some a4) a3 a1), (11, ia (Int.tmod (IntKind.i64.wrap a11) (a1.length : Int))), (39, sv (some a4) a3 a1), (40, ia (Int.tmod (IntKind.i64.wrap a11) (a1.length : Int))), (44, ia (IntKind.i64.wrap a12)), (45, sv (some a4) a3 a1), (46, ia (Int.tmod (IntKind.i64.wrap a11) (a1.length : Int)))] (bm 15 243) (by kernel_rfl) (by kernel_rfl) ?_
   refine ED.Y hN hF hC 2 8 (bm 15 247) (by kernel_rfl) (by kernel_rfl) rfl (fun _ _ _ hS => YO.idx 24 1 a4 a1.length a3 .i64 (Int.tmod (IntKind.i64.wrap a11) (a1.length : Int)) 41 (by kernel_rfl) (by kernel_rfl) (by kernel_rfl) (by kernel_rfl) b6 c4) ?_
   refine ED.Y hN hF hC 8 7 (bm 15 503) (by kernel_rfl) (by kernel_rfl) rfl (fun _ _ _ hS => YO.idx 24 1 a4 a1.length a3 .i64 (Int.tmod (IntKind.i64.wrap a11) (a1.length : Int)) 47 (by kernel_rfl) (by kernel_rfl) (by kernel_rfl) (by kernel_rfl) b6 c4) ?_
   refine ED.Y hN hF hC 12 6 (bm 15 4599) (by kernel_rfl) (by kernel_rfl) rfl (fun _ _ _ hS => YO.loadBox hS 0 rfl 27 0 2 (ag [ia a13, ib a14]) 51 (by kernel_rfl) (by kernel_rfl) (by kernel_rfl) (by kernel_rfl)) ?_
   refine ED.two 3 9 5 (by kernel_rfl) (by kernel_rfl) ?_ ?_
   ·refine EO.Y (YO.loadPin hS 1 a4 (j := (Int.tmod (IntKind.i64.wrap a11) (a1.length : Int))) rfl b6 c4 25 42 (by kernel_rfl) (by kernel_rfl) (by kernel_rfl) (by kernel_rfl)) ?_
    have hC := hC.again ⟨_, _, hS.re [2] [] rfl sub_self⟩
    refine ⟨hC, ?_⟩
    refine ED.at' (bm 15 4607) (by kernel_rfl) ?_
    refine ED.one 9 4 (bm 15 5119) (by kernel_rfl) (by kernel_rfl) (by kernel_rfl) (EO.Y (YO.loadPin hS 1 a4 (j := (Int.tmod (IntKind.i64.wrap a11) (a1.length : Int))) rfl b6 c4 25 48 (by kernel_rfl) (by kernel_rfl) (by kernel_rfl) (by kernel_rfl)) ?_)
    have hC := hC.again ⟨_, _, hS.re [2] [] rfl sub_self⟩
    refine ⟨hC, ?_⟩
    refine ED.quick hN hF hC [10] [2, 7, 9, 10, 11, 42, 44, 49, 51] 3 [(2, ig a12), (7, pt a7 0), (9, sv b3 a2 a0), (10, sv (some a4) a3 a1), (11, ia (Int.tmod (IntKind.i64.wrap a11) (a1.length : Int))), (42, sv (some b0) a9 a8), (44, ia (IntKind.i64.wrap a12)), (49, ia (a8.length : Int)), (51, ag [ia a13, ib a14])] (bm 15 6143) (by kernel_rfl) (by kernel_rfl) ?_
    refine ED.Y hN hF hC 11 2 (bm 15 8191) (by kernel_rfl) (by kernel_rfl) rfl (fun _ _ _ hS => YO.div .rem .i64 (IntKind.i64.wrap a12) (a8.length : Int) (Int.tmod (IntKind.i64.wrap a12) (a8.length : Int)) 50 (by kernel_rfl) (by kernel_rfl) (by kernel_rfl) g3 (by first | exact .inl ⟨rfl, rfl⟩ | exact .inr ⟨rfl, rfl⟩)) ?_
    refine ED.Y hN hF hC 13 1 (bm 15 16383) (by kernel_rfl) (by kernel_rfl) rfl (fun _ _ _ hS => YO.idx 25 2 b0 a8.length a9 .i64 (Int.tmod (IntKind.i64.wrap a12) (a8.length : Int)) 52 (by kernel_rfl) (by kernel_rfl) (by kernel_rfl) (by kernel_rfl) d8 d9) ?_
    refine ED.one 14 0 (bm 15 32767) (by kernel_rfl) (by kernel_rfl) (by kernel_rfl) (EO.storeEl hS 0 kS27 27 b0 a9 a8 rfl (Int.tmod (IntKind.i64.wrap a12) (a8.length : Int)) d8 d9 zS27 27 2 0 rfl (ag [ia a13, ib a14]) (⟨a13, a14⟩ : S27) b4 d1 (Ass.own 27 kS27 (some b0) a9 b4 :: Ass.pin 25 kS27 (some a4) a3 a1 (Int.tmod (IntKind.i64.wrap a11) (a1.length : Int)).toNat ((some b0), a8.length, a9) :: Ass.box 27 a7 [ia a13, ib a14] :: os) (by kernel_rfl) (by kernel_rfl) (by kernel_rfl) (by kernel_rfl) (by kernel_rfl) (by kernel_rfl) (fun w G vs hr h => set_whole h (by kernel_rfl) ⟨[ia a13], [ib a14], rfl, rfl, ⟨[ib a14], [], rfl, rfl, rfl⟩⟩) rfl ?_)
    intro w hS
    have hS := St.as (os' := Ass.own 25 (Kd.slice kS27) (some a4) a3 a6 :: Ass.box 27 a7 [ia a13, ib a14] :: os) (St.unpin hS 0 0 rfl rfl (len_set rfl d1) a6 e9) rfl
    have hC := hC.again ⟨_, _, hS.re [1] [] rfl (sub_cons 1 rfl (sub_cons 2 rfl (sub_cons 3 rfl sub_self)))⟩
    refine ⟨hC, ?_⟩
    refine ED.keep [2, 7, 9, 10, 11, 42, 44, 49, 50, 51, 52] [(2, ig a12), (7, pt a7 0), (9, sv b3 a2 a0), (10, sv (some a4) a3 a1), (11, ia (Int.tmod (IntKind.i64.wrap a11) (a1.length : Int))), (42, sv (some b0) a9 a8), (44, ia (IntKind.i64.wrap a12)), (49, ia (a8.length : Int)), (50, ia (Int.tmod (IntKind.i64.wrap a12) (a8.length : Int))), (51, ag [ia a13, ib a14]), (52, .pointer (some ((b0.add ((Int.tmod (IntKind.i64.wrap a12) (a8.length : Int)).toNat * 2)).add 0)))] (by kernel_rfl) ?_
    refine ED.as' [(2, ig a12), (7, pt a7 0), (9, sv b3 a2 a0), (10, sv (some a4) a3 a6), (11, ia (Int.tmod (IntKind.i64.wrap a11) (a1.length : Int))), (42, sv (some b0) a9 b4), (44, ia (IntKind.i64.wrap a12)), (49, ia (a8.length : Int)), (50, ia (Int.tmod (IntKind.i64.wrap a12) (a8.length : Int))), (51, ag [ia a13, ib a14]), (52, .pointer (some ((b0.add ((Int.tmod (IntKind.i64.wrap a12) (a8.length : Int)).toNat * 2)).add 0)))] (by simp only [encS27, sv, e9, d1, List.length_set]) ?_
    refine ED.done (by kernel_rfl) ?_
    refine EQ.to ?_
    refine EQ.keep [2, 7, 9, 10, 11] [(2, ig a12), (7, pt a7 0), (9, sv b3 a2 a0), (10, sv (some a4) a3 a6), (11, ia (Int.tmod (IntKind.i64.wrap a11) (a1.length : Int)))] (by kernel_rfl) ?_
    exact fun a ha => ⟨ha, (hS.re [1, 1] [] rfl (sub_cons 0 rfl (sub_cons 1 rfl (sub_cons 2 rfl (sub_cons 3 rfl (sub_tail (sub_tail (sub_tail (sub_tail (sub_self))))))))))⟩
   ·refine EO.Y (YO.loadPin hS 1 a4 (j := (Int.tmod (IntKind.i64.wrap a11) (a1.length : Int))) rfl b6 c4 25 48 (by kernel_rfl) (by kernel_rfl) (by kernel_rfl) (by kernel_rfl)) ?_
    have hC := hC.again ⟨_, _, hS.re [2] [] rfl sub_self⟩
    refine ⟨hC, ?_⟩
    refine ED.at' (bm 15 5111) (by kernel_rfl) ?_
    refine ED.quick hN hF hC [10] [2, 7, 9, 10, 11, 41, 44, 49, 51] 4 [(2, ig a12), (7, pt a7 0), (9, sv b3 a2 a0), (10, sv (some a4) a3 a1), (11, ia (Int.tmod (IntKind.i64.wrap a11) (a1.length : Int))), (41, .pointer (some ((a4.add ((Int.tmod (IntKind.i64.wrap a11) (a1.length : Int)).toNat * 1)).add 0))), (44, ia (IntKind.i64.wrap a12)), (49, ia (a8.length : Int)), (51, ag [ia a13, ib a14])] (bm 15 6135) (by kernel_rfl) (by kernel_rfl) ?_
    refine ED.Y hN hF hC 11 3 (bm 15 8183) (by kernel_rfl) (by kernel_rfl) rfl (fun _ _ _ hS => YO.div .rem .i64 (IntKind.i64.wrap a12) (a8.length : Int) (Int.tmod (IntKind.i64.wrap a12) (a8.length : Int)) 50 (by kernel_rfl) (by kernel_rfl) (by kernel_rfl) g3 (by first | exact .inl ⟨rfl, rfl⟩ | exact .inr ⟨rfl, rfl⟩)) ?_
    refine ED.one 3 2 (bm 15 8191) (by kernel_rfl) (by kernel_rfl) (by kernel_rfl) (EO.Y (YO.loadPin hS 1 a4 (j := (Int.tmod (IntKind.i64.wrap a11) (a1.length : Int))) rfl b6 c4 25 42 (by kernel_rfl) (by kernel_rfl) (by kernel_rfl) (by kernel_rfl)) ?_)
    have hC := hC.again ⟨_, _, hS.re [2] [] rfl sub_self⟩
    refine ⟨hC, ?_⟩
    refine ED.Y hN hF hC 13 1 (bm 15 16383) (by kernel_rfl) (by kernel_rfl) rfl (fun _ _ _ hS => YO.idx 25 2 b0 a8.length a9 .i64 (Int.tmod (IntKind.i64.wrap a12) (a8.length : Int)) 52 (by kernel_rfl) (by kernel_rfl) (by kernel_rfl) (by kernel_rfl) d8 d9) ?_
    refine ED.one 14 0 (bm 15 32767) (by kernel_rfl) (by kernel_rfl) (by kernel_rfl) (EO.storeEl hS 0 kS27 27 b0 a9 a8 rfl (Int.tmod (IntKind.i64.wrap a12) (a8.length : Int)) d8 d9 zS27 27 2 0 rfl (ag [ia a13, ib a14]) (⟨a13, a14⟩ : S27) b4 d1 (Ass.own 27 kS27 (some b0) a9 b4 :: Ass.pin 25 kS27 (some a4) a3 a1 (Int.tmod (IntKind.i64.wrap a11) (a1.length : Int)).toNat ((some b0), a8.length, a9) :: Ass.box 27 a7 [ia a13, ib a14] :: os) (by kernel_rfl) (by kernel_rfl) (by kernel_rfl) (by kernel_rfl) (by kernel_rfl) (by kernel_rfl) (fun w G vs hr h => set_whole h (by kernel_rfl) ⟨[ia a13], [ib a14], rfl, rfl, ⟨[ib a14], [], rfl, rfl, rfl⟩⟩) rfl ?_)
    intro w hS
    have hS := St.as (os' := Ass.own 25 (Kd.slice kS27) (some a4) a3 a6 :: Ass.box 27 a7 [ia a13, ib a14] :: os) (St.unpin hS 0 0 rfl rfl (len_set rfl d1) a6 e9) rfl
    have hC := hC.again ⟨_, _, hS.re [1] [] rfl (sub_cons 1 rfl (sub_cons 2 rfl (sub_cons 3 rfl sub_self)))⟩
    refine ⟨hC, ?_⟩
    refine ED.keep [2, 7, 9, 10, 11, 41, 42, 44, 49, 50, 51, 52] [(2, ig a12), (7, pt a7 0), (9, sv b3 a2 a0), (10, sv (some a4) a3 a1), (11, ia (Int.tmod (IntKind.i64.wrap a11) (a1.length : Int))), (41, .pointer (some ((a4.add ((Int.tmod (IntKind.i64.wrap a11) (a1.length : Int)).toNat * 1)).add 0))), (42, sv (some b0) a9 a8), (44, ia (IntKind.i64.wrap a12)), (49, ia (a8.length : Int)), (50, ia (Int.tmod (IntKind.i64.wrap a12) (a8.length : Int))), (51, ag [ia a13, ib a14]), (52, .pointer (some ((b0.add ((Int.tmod (IntKind.i64.wrap a12) (a8.length : Int)).toNat * 2)).add 0)))] (by kernel_rfl) ?_
    refine ED.as' [(2, ig a12), (7, pt a7 0), (9, sv b3 a2 a0), (10, sv (some a4) a3 a6), (11, ia (Int.tmod (IntKind.i64.wrap a11) (a1.length : Int))), (41, .pointer (some ((a4.add ((Int.tmod (IntKind.i64.wrap a11) (a1.length : Int)).toNat * 1)).add 0))), (42, sv (some b0) a9 b4), (44, ia (IntKind.i64.wrap a12)), (49, ia (a8.length : Int)), (50, ia (Int.tmod (IntKind.i64.wrap a12) (a8.length : Int))), (51, ag [ia a13, ib a14]), (52, .pointer (some ((b0.add ((Int.tmod (IntKind.i64.wrap a12) (a8.length : Int)).toNat * 2)).add 0)))] (by simp only [encS27, sv, e9, d1, List.length_set]) ?_
    refine ED.done (by kernel_rfl) ?_
    refine EQ.to ?_
    refine EQ.keep [2, 7, 9, 10, 11] [(2, ig a12), (7, pt a7 0), (9, sv b3 a2 a0), (10, sv (some a4) a3 a6), (11, ia (Int.tmod (IntKind.i64.wrap a11) (a1.length : Int)))] (by kernel_rfl) ?_
    exact fun a ha => ⟨ha, (hS.re [1, 1] [] rfl (sub_cons 0 rfl (sub_cons 1 rfl (sub_cons 2 rfl (sub_cons 3 rfl (sub_tail (sub_tail (sub_tail (sub_tail (sub_self))))))))))⟩
  ·obtain ⟨ha, hS⟩ := hI
   refine EQ.at ?_ a ha
   clear ha a
   refine EQ.code ?_
   refine EW.sq (by kernel_rfl) ?_
   obtain ⟨c6, H⟩ := ite_in H
   obtain ⟨a5, rfl⟩ := St.rd_some hS (Rd.ro 2 rfl) b6 c6
   obtain ⟨g4, H⟩ := ite_out H
   obtain ⟨c9, H⟩ := ite_in H
   obtain ⟨d0, H⟩ := ite_in H
   refine EW.mt (fun a w => Sat 117 [(9, sv (some a5) a2 a0), (10, sv (some a4) a3 a6), (12, .bool ((((((a0.getD (Int.tmod (IntKind.i64.wrap a11) (a1.length : Int)).toNat []).getD (Int.tmod (IntKind.i64.wrap a12) ((a0.getD (Int.tmod (IntKind.i64.wrap a11) (a1.length : Int)).toNat []).length : Int)).toNat zS27).f0) == a13) && (((((a0.getD (Int.tmod (IntKind.i64.wrap a11) (a1.length : Int)).toNat []).getD (Int.tmod (IntKind.i64.wrap a12) ((a0.getD (Int.tmod (IntKind.i64.wrap a11) (a1.length : Int)).toNat []).length : Int)).toNat zS27).f1) == a14) && true))))] a ∧ St B w (Ass.own 25 (Kd.slice kS27) (some a4) a3 a6 :: Ass.box 27 a7 [ia a13, ib a14] :: os) (Ro.sl kS27 (some b0) a9 b4 :: Ro.sl kS27 b8 b9 (a1.getD (Int.tmod (IntKind.i64.wrap a11) (a1.length : Int)).toNat []) :: Ro.sl (Kd.slice kS27) (some a5) a2 a0 :: Ro.sl (Kd.int .u8) A9 C10 l8 :: rs)) (by kernel_rfl) ?_ (fun a w hI => ?_)
   ·have hS := hS.drew
    refine EW.dr (B := B) [Ass.own 25 (Kd.slice kS27) (some a4) a3 a6, Ass.box 27 a7 [ia a13, ib a14]] [Ro.sl kS27 (some b0) a9 b4, Ro.sl kS27 b8 b9 (a1.getD (Int.tmod (IntKind.i64.wrap a11) (a1.length : Int)).toNat []), Ro.sl (Kd.slice kS27) (some a5) a2 a0, Ro.sl (Kd.int .u8) A9 C10 l8] (by kernel_rfl) (by kernel_rfl) ?_
    have hN : Region.noSelect Cd4.r.r.r.r.r.r.r.r.l.ops = true := (by kernel_rfl)
    have hF : freeAll Cd4.r.r.r.r.r.r.r.r.l.ops = true := (by kernel_rfl)
    have hC : Core B [Ass.own 25 (Kd.slice kS27) (some a4) a3 a6, Ass.box 27 a7 [ia a13, ib a14]] [Ro.sl kS27 (some b0) a9 b4, Ro.sl kS27 b8 b9 (a1.getD (Int.tmod (IntKind.i64.wrap a11) (a1.length : Int)).toNat []), Ro.sl (Kd.slice kS27) (some a5) a2 a0, Ro.sl (Kd.int .u8) A9 C10 l8] _ := ⟨_, _, hS⟩
    refine ED.quick hN hF hC [0, 1, 4, 5, 6, 7] [7, 9, 10, 53, 54, 58, 59, 60] 11 [(7, pt a7 0), (9, sv (some a5) a2 a0), (10, sv (some a4) a3 a6), (53, sv (some a5) a2 a0), (54, ia (Int.tmod (IntKind.i64.wrap a11) (a1.length : Int))), (58, ia (IntKind.i64.wrap a12)), (59, sv (some a5) a2 a0), (60, ia (Int.tmod (IntKind.i64.wrap a11) (a1.length : Int)))] (bm 17 243) (by kernel_rfl) (by kernel_rfl) ?_
    refine ED.Y hN hF hC 2 10 (bm 17 247) (by kernel_rfl) (by kernel_rfl) rfl (fun _ _ _ hS => YO.idx 24 1 a5 a0.length a2 .i64 (Int.tmod (IntKind.i64.wrap a11) (a1.length : Int)) 55 (by kernel_rfl) (by kernel_rfl) (by kernel_rfl) (by kernel_rfl) b6 c6) ?_
    refine ED.Y hN hF hC 8 9 (bm 17 503) (by kernel_rfl) (by kernel_rfl) rfl (fun _ _ _ hS => YO.idx 24 1 a5 a0.length a2 .i64 (Int.tmod (IntKind.i64.wrap a11) (a1.length : Int)) 61 (by kernel_rfl) (by kernel_rfl) (by kernel_rfl) (by kernel_rfl) b6 c6) ?_
    refine ED.Y hN hF hC 14 8 (bm 17 16887) (by kernel_rfl) (by kernel_rfl) rfl (fun _ _ _ hS => YO.loadBox hS 1 rfl 27 0 2 (ag [ia a13, ib a14]) 67 (by kernel_rfl) (by kernel_rfl) (by kernel_rfl) (by kernel_rfl)) ?_
    refine ED.two 3 9 7 (by kernel_rfl) (by kernel_rfl) ?_ ?_
    ·refine EO.loadSl hS kS27 a5 a2 a0 (Rd.ro 2 rfl) (Int.tmod (IntKind.i64.wrap a11) (a1.length : Int)) b6 c6 25 56 (by kernel_rfl) (by kernel_rfl) (by kernel_rfl) (by kernel_rfl) ?_
     intro g5 f3 hS
     have hC := hC.again ⟨_, _, hS.re [1, 1] [] rfl (sub_cons 1 rfl (sub_cons 2 rfl (sub_cons 3 rfl (sub_cons 4 rfl sub_self))))⟩
     refine ⟨hC, ?_⟩
     refine ED.at' (bm 17 16895) (by kernel_rfl) ?_
     refine ED.one 9 6 (bm 17 17407) (by kernel_rfl) (by kernel_rfl) (by kernel_rfl) (EO.loadSl hS kS27 a5 a2 a0 (Rd.ro 3 rfl) (Int.tmod (IntKind.i64.wrap a11) (a1.length : Int)) b6 c6 25 62 (by kernel_rfl) (by kernel_rfl) (by kernel_rfl) (by kernel_rfl) ?_)
     intro j5 j8 hS
     have hC := hC.again ⟨_, _, hS.re [1, 1] [] rfl (sub_cons 2 rfl (sub_cons 3 rfl (sub_cons 4 rfl (sub_cons 5 rfl sub_self))))⟩
     refine ⟨hC, ?_⟩
     refine ED.quick hN hF hC [10] [9, 10, 56, 58, 63, 67] 5 [(9, sv (some a5) a2 a0), (10, sv (some a4) a3 a6), (56, sv g5 f3 (a0.getD (Int.tmod (IntKind.i64.wrap a11) (a1.length : Int)).toNat [])), (58, ia (IntKind.i64.wrap a12)), (63, ia ((a0.getD (Int.tmod (IntKind.i64.wrap a11) (a1.length : Int)).toNat []).length : Int)), (67, ag [ia a13, ib a14])] (bm 17 18431) (by kernel_rfl) (by kernel_rfl) ?_
     refine ED.Y hN hF hC 11 4 (bm 17 20479) (by kernel_rfl) (by kernel_rfl) rfl (fun _ _ _ hS => YO.div .rem .i64 (IntKind.i64.wrap a12) ((a0.getD (Int.tmod (IntKind.i64.wrap a11) (a1.length : Int)).toNat []).length : Int) (Int.tmod (IntKind.i64.wrap a12) ((a0.getD (Int.tmod (IntKind.i64.wrap a11) (a1.length : Int)).toNat []).length : Int)) 64 (by kernel_rfl) (by kernel_rfl) (by kernel_rfl) g4 (by first | exact .inl ⟨rfl, rfl⟩ | exact .inr ⟨rfl, rfl⟩)) ?_
     obtain ⟨g1, rfl⟩ := St.rd_some hS (Rd.ro 1 rfl) c9 d0
     refine ED.Y hN hF hC 12 3 (bm 17 24575) (by kernel_rfl) (by kernel_rfl) rfl (fun _ _ _ hS => YO.idx 25 2 g1 (a0.getD (Int.tmod (IntKind.i64.wrap a11) (a1.length : Int)).toNat []).length f3 .i64 (Int.tmod (IntKind.i64.wrap a12) ((a0.getD (Int.tmod (IntKind.i64.wrap a11) (a1.length : Int)).toNat []).length : Int)) 65 (by kernel_rfl) (by kernel_rfl) (by kernel_rfl) (by kernel_rfl) c9 d0) ?_
     refine ED.one 13 2 (bm 17 32767) (by kernel_rfl) (by kernel_rfl) (by kernel_rfl) (EO.Y (YO.loadEl hS kS27 g1 f3 (a0.getD (Int.tmod (IntKind.i64.wrap a11) (a1.length : Int)).toNat []) (Rd.ro 1 rfl) zS27 encS27 encS27_of (Int.tmod (IntKind.i64.wrap a12) ((a0.getD (Int.tmod (IntKind.i64.wrap a11) (a1.length : Int)).toNat []).length : Int)) c9 d0 27 2 0 2 rfl (ag [ia (((a0.getD (Int.tmod (IntKind.i64.wrap a11) (a1.length : Int)).toNat []).getD (Int.tmod (IntKind.i64.wrap a12) ((a0.getD (Int.tmod (IntKind.i64.wrap a11) (a1.length : Int)).toNat []).length : Int)).toNat zS27).f0), ib (((a0.getD (Int.tmod (IntKind.i64.wrap a11) (a1.length : Int)).toNat []).getD (Int.tmod (IntKind.i64.wrap a12) ((a0.getD (Int.tmod (IntKind.i64.wrap a11) (a1.length : Int)).toNat []).length : Int)).toNat zS27).f1)]) 66 (by kernel_rfl) (by kernel_rfl) (by kernel_rfl) (by kernel_rfl)) ?_)
     have hC := hC.again ⟨_, _, hS.re [1, 1] [] rfl (sub_cons 2 rfl (sub_cons 3 rfl (sub_cons 4 rfl (sub_cons 5 rfl sub_self))))⟩
     refine ⟨hC, ?_⟩
     refine ED.Y hN hF hC 15 1 (bm 17 65535) (by kernel_rfl) (by kernel_rfl) rfl (fun _ _ _ hS => YO.eqAg .eql 27 (.tmp 66) (.tmp 67) #[ia (((a0.getD (Int.tmod (IntKind.i64.wrap a11) (a1.length : Int)).toNat []).getD (Int.tmod (IntKind.i64.wrap a12) ((a0.getD (Int.tmod (IntKind.i64.wrap a11) (a1.length : Int)).toNat []).length : Int)).toNat zS27).f0), ib (((a0.getD (Int.tmod (IntKind.i64.wrap a11) (a1.length : Int)).toNat []).getD (Int.tmod (IntKind.i64.wrap a12) ((a0.getD (Int.tmod (IntKind.i64.wrap a11) (a1.length : Int)).toNat []).length : Int)).toNat zS27).f1)] #[ia a13, ib a14] (((((a0.getD (Int.tmod (IntKind.i64.wrap a11) (a1.length : Int)).toNat []).getD (Int.tmod (IntKind.i64.wrap a12) ((a0.getD (Int.tmod (IntKind.i64.wrap a11) (a1.length : Int)).toNat []).length : Int)).toNat zS27).f0) == a13) && (((((a0.getD (Int.tmod (IntKind.i64.wrap a11) (a1.length : Int)).toNat []).getD (Int.tmod (IntKind.i64.wrap a12) ((a0.getD (Int.tmod (IntKind.i64.wrap a11) (a1.length : Int)).toNat []).length : Int)).toNat zS27).f1) == a14) && true)) ((((((a0.getD (Int.tmod (IntKind.i64.wrap a11) (a1.length : Int)).toNat []).getD (Int.tmod (IntKind.i64.wrap a12) ((a0.getD (Int.tmod (IntKind.i64.wrap a11) (a1.length : Int)).toNat []).length : Int)).toNat zS27).f0) == a13) && (((((a0.getD (Int.tmod (IntKind.i64.wrap a11) (a1.length : Int)).toNat []).getD (Int.tmod (IntKind.i64.wrap a12) ((a0.getD (Int.tmod (IntKind.i64.wrap a11) (a1.length : Int)).toNat []).length : Int)).toNat zS27).f1) == a14) && true))) 68 (by kernel_rfl) (by kernel_rfl) (by kernel_rfl) (by kernel_rfl) (by kernel_rfl) (.inl ⟨rfl, rfl⟩)) ?_
     refine ED.quick hN hF hC [16] [9, 10, 12] 0 [(9, sv (some a5) a2 a0), (10, sv (some a4) a3 a6), (12, .bool ((((((a0.getD (Int.tmod (IntKind.i64.wrap a11) (a1.length : Int)).toNat []).getD (Int.tmod (IntKind.i64.wrap a12) ((a0.getD (Int.tmod (IntKind.i64.wrap a11) (a1.length : Int)).toNat []).length : Int)).toNat zS27).f0) == a13) && (((((a0.getD (Int.tmod (IntKind.i64.wrap a11) (a1.length : Int)).toNat []).getD (Int.tmod (IntKind.i64.wrap a12) ((a0.getD (Int.tmod (IntKind.i64.wrap a11) (a1.length : Int)).toNat []).length : Int)).toNat zS27).f1) == a14) && true))))] (bm 17 131071) (by kernel_rfl) (by kernel_rfl) ?_
     refine ED.done (by kernel_rfl) ?_
     refine EQ.to ?_
     refine EQ.keep [9, 10, 12] [(9, sv (some a5) a2 a0), (10, sv (some a4) a3 a6), (12, .bool ((((((a0.getD (Int.tmod (IntKind.i64.wrap a11) (a1.length : Int)).toNat []).getD (Int.tmod (IntKind.i64.wrap a12) ((a0.getD (Int.tmod (IntKind.i64.wrap a11) (a1.length : Int)).toNat []).length : Int)).toNat zS27).f0) == a13) && (((((a0.getD (Int.tmod (IntKind.i64.wrap a11) (a1.length : Int)).toNat []).getD (Int.tmod (IntKind.i64.wrap a12) ((a0.getD (Int.tmod (IntKind.i64.wrap a11) (a1.length : Int)).toNat []).length : Int)).toNat zS27).f1) == a14) && true))))] (by kernel_rfl) ?_
     exact fun a ha => ⟨ha, (hS.re [1, 1] [] rfl (sub_cons 2 rfl (sub_cons 3 rfl (sub_cons 4 rfl (sub_cons 5 rfl (sub_tail (sub_tail (sub_tail (sub_tail (sub_tail (sub_tail (sub_self))))))))))))⟩
    ·refine EO.loadSl hS kS27 a5 a2 a0 (Rd.ro 2 rfl) (Int.tmod (IntKind.i64.wrap a11) (a1.length : Int)) b6 c6 25 62 (by kernel_rfl) (by kernel_rfl) (by kernel_rfl) (by kernel_rfl) ?_
     intro j6 j9 hS
     have hC := hC.again ⟨_, _, hS.re [1, 1] [] rfl (sub_cons 1 rfl (sub_cons 2 rfl (sub_cons 3 rfl (sub_cons 4 rfl sub_self))))⟩
     refine ⟨hC, ?_⟩
     refine ED.at' (bm 17 17399) (by kernel_rfl) ?_
     refine ED.quick hN hF hC [10] [9, 10, 55, 58, 63, 67] 6 [(9, sv (some a5) a2 a0), (10, sv (some a4) a3 a6), (55, .pointer (some ((a5.add ((Int.tmod (IntKind.i64.wrap a11) (a1.length : Int)).toNat * 1)).add 0))), (58, ia (IntKind.i64.wrap a12)), (63, ia ((a0.getD (Int.tmod (IntKind.i64.wrap a11) (a1.length : Int)).toNat []).length : Int)), (67, ag [ia a13, ib a14])] (bm 17 18423) (by kernel_rfl) (by kernel_rfl) ?_
     refine ED.Y hN hF hC 11 5 (bm 17 20471) (by kernel_rfl) (by kernel_rfl) rfl (fun _ _ _ hS => YO.div .rem .i64 (IntKind.i64.wrap a12) ((a0.getD (Int.tmod (IntKind.i64.wrap a11) (a1.length : Int)).toNat []).length : Int) (Int.tmod (IntKind.i64.wrap a12) ((a0.getD (Int.tmod (IntKind.i64.wrap a11) (a1.length : Int)).toNat []).length : Int)) 64 (by kernel_rfl) (by kernel_rfl) (by kernel_rfl) g4 (by first | exact .inl ⟨rfl, rfl⟩ | exact .inr ⟨rfl, rfl⟩)) ?_
     refine ED.one 3 4 (bm 17 20479) (by kernel_rfl) (by kernel_rfl) (by kernel_rfl) (EO.loadSl hS kS27 a5 a2 a0 (Rd.ro 3 rfl) (Int.tmod (IntKind.i64.wrap a11) (a1.length : Int)) b6 c6 25 56 (by kernel_rfl) (by kernel_rfl) (by kernel_rfl) (by kernel_rfl) ?_)
     intro j7 f9 hS
     have hC := hC.again ⟨_, _, hS.re [1, 1] [] rfl (sub_cons 2 rfl (sub_cons 3 rfl (sub_cons 4 rfl (sub_cons 5 rfl sub_self))))⟩
     refine ⟨hC, ?_⟩
     obtain ⟨g2, rfl⟩ := St.rd_some hS (Rd.ro 0 rfl) c9 d0
     refine ED.Y hN hF hC 12 3 (bm 17 24575) (by kernel_rfl) (by kernel_rfl) rfl (fun _ _ _ hS => YO.idx 25 2 g2 (a0.getD (Int.tmod (IntKind.i64.wrap a11) (a1.length : Int)).toNat []).length f9 .i64 (Int.tmod (IntKind.i64.wrap a12) ((a0.getD (Int.tmod (IntKind.i64.wrap a11) (a1.length : Int)).toNat []).length : Int)) 65 (by kernel_rfl) (by kernel_rfl) (by kernel_rfl) (by kernel_rfl) c9 d0) ?_
     refine ED.one 13 2 (bm 17 32767) (by kernel_rfl) (by kernel_rfl) (by kernel_rfl) (EO.Y (YO.loadEl hS kS27 g2 f9 (a0.getD (Int.tmod (IntKind.i64.wrap a11) (a1.length : Int)).toNat []) (Rd.ro 0 rfl) zS27 encS27 encS27_of (Int.tmod (IntKind.i64.wrap a12) ((a0.getD (Int.tmod (IntKind.i64.wrap a11) (a1.length : Int)).toNat []).length : Int)) c9 d0 27 2 0 2 rfl (ag [ia (((a0.getD (Int.tmod (IntKind.i64.wrap a11) (a1.length : Int)).toNat []).getD (Int.tmod (IntKind.i64.wrap a12) ((a0.getD (Int.tmod (IntKind.i64.wrap a11) (a1.length : Int)).toNat []).length : Int)).toNat zS27).f0), ib (((a0.getD (Int.tmod (IntKind.i64.wrap a11) (a1.length : Int)).toNat []).getD (Int.tmod (IntKind.i64.wrap a12) ((a0.getD (Int.tmod (IntKind.i64.wrap a11) (a1.length : Int)).toNat []).length : Int)).toNat zS27).f1)]) 66 (by kernel_rfl) (by kernel_rfl) (by kernel_rfl) (by kernel_rfl)) ?_)
     have hC := hC.again ⟨_, _, hS.re [1, 1] [] rfl (sub_cons 2 rfl (sub_cons 3 rfl (sub_cons 4 rfl (sub_cons 5 rfl sub_self))))⟩
     refine ⟨hC, ?_⟩
     refine ED.Y hN hF hC 15 1 (bm 17 65535) (by kernel_rfl) (by kernel_rfl) rfl (fun _ _ _ hS => YO.eqAg .eql 27 (.tmp 66) (.tmp 67) #[ia (((a0.getD (Int.tmod (IntKind.i64.wrap a11) (a1.length : Int)).toNat []).getD (Int.tmod (IntKind.i64.wrap a12) ((a0.getD (Int.tmod (IntKind.i64.wrap a11) (a1.length : Int)).toNat []).length : Int)).toNat zS27).f0), ib (((a0.getD (Int.tmod (IntKind.i64.wrap a11) (a1.length : Int)).toNat []).getD (Int.tmod (IntKind.i64.wrap a12) ((a0.getD (Int.tmod (IntKind.i64.wrap a11) (a1.length : Int)).toNat []).length : Int)).toNat zS27).f1)] #[ia a13, ib a14] (((((a0.getD (Int.tmod (IntKind.i64.wrap a11) (a1.length : Int)).toNat []).getD (Int.tmod (IntKind.i64.wrap a12) ((a0.getD (Int.tmod (IntKind.i64.wrap a11) (a1.length : Int)).toNat []).length : Int)).toNat zS27).f0) == a13) && (((((a0.getD (Int.tmod (IntKind.i64.wrap a11) (a1.length : Int)).toNat []).getD (Int.tmod (IntKind.i64.wrap a12) ((a0.getD (Int.tmod (IntKind.i64.wrap a11) (a1.length : Int)).toNat []).length : Int)).toNat zS27).f1) == a14) && true)) ((((((a0.getD (Int.tmod (IntKind.i64.wrap a11) (a1.length : Int)).toNat []).getD (Int.tmod (IntKind.i64.wrap a12) ((a0.getD (Int.tmod (IntKind.i64.wrap a11) (a1.length : Int)).toNat []).length : Int)).toNat zS27).f0) == a13) && (((((a0.getD (Int.tmod (IntKind.i64.wrap a11) (a1.length : Int)).toNat []).getD (Int.tmod (IntKind.i64.wrap a12) ((a0.getD (Int.tmod (IntKind.i64.wrap a11) (a1.length : Int)).toNat []).length : Int)).toNat zS27).f1) == a14) && true))) 68 (by kernel_rfl) (by kernel_rfl) (by kernel_rfl) (by kernel_rfl) (by kernel_rfl) (.inl ⟨rfl, rfl⟩)) ?_
     refine ED.quick hN hF hC [16] [9, 10, 12] 0 [(9, sv (some a5) a2 a0), (10, sv (some a4) a3 a6), (12, .bool ((((((a0.getD (Int.tmod (IntKind.i64.wrap a11) (a1.length : Int)).toNat []).getD (Int.tmod (IntKind.i64.wrap a12) ((a0.getD (Int.tmod (IntKind.i64.wrap a11) (a1.length : Int)).toNat []).length : Int)).toNat zS27).f0) == a13) && (((((a0.getD (Int.tmod (IntKind.i64.wrap a11) (a1.length : Int)).toNat []).getD (Int.tmod (IntKind.i64.wrap a12) ((a0.getD (Int.tmod (IntKind.i64.wrap a11) (a1.length : Int)).toNat []).length : Int)).toNat zS27).f1) == a14) && true))))] (bm 17 131071) (by kernel_rfl) (by kernel_rfl) ?_
     refine ED.done (by kernel_rfl) ?_
     refine EQ.to ?_
     refine EQ.keep [9, 10, 12] [(9, sv (some a5) a2 a0), (10, sv (some a4) a3 a6), (12, .bool ((((((a0.getD (Int.tmod (IntKind.i64.wrap a11) (a1.length : Int)).toNat []).getD (Int.tmod (IntKind.i64.wrap a12) ((a0.getD (Int.tmod (IntKind.i64.wrap a11) (a1.length : Int)).toNat []).length : Int)).toNat zS27).f0) == a13) && (((((a0.getD (Int.tmod (IntKind.i64.wrap a11) (a1.length : Int)).toNat []).getD (Int.tmod (IntKind.i64.wrap a12) ((a0.getD (Int.tmod (IntKind.i64.wrap a11) (a1.length : Int)).toNat []).length : Int)).toNat zS27).f1) == a14) && true))))] (by kernel_rfl) ?_
     exact fun a ha => ⟨ha, (hS.re [1, 1] [] rfl (sub_cons 2 rfl (sub_cons 3 rfl (sub_cons 4 rfl (sub_cons 5 rfl (sub_tail (sub_tail (sub_tail (sub_tail (sub_tail (sub_tail (sub_self))))))))))))⟩
   ·obtain ⟨ha, hS⟩ := hI
    refine EQ.at ?_ a ha
    clear ha a
    refine EQ.code ?_
    refine EW.sq (by kernel_rfl) ?_
    obtain ⟨e0, i9, H⟩ := lt_out H
    refine EW.ct (fun a w => ∃ d4 : Bool, Sat 117 [(9, sv (some a5) a2 a0), (10, sv (some a4) a3 a6), (12, .bool ((((((a0.getD (Int.tmod (IntKind.i64.wrap a11) (a1.length : Int)).toNat []).getD (Int.tmod (IntKind.i64.wrap a12) ((a0.getD (Int.tmod (IntKind.i64.wrap a11) (a1.length : Int)).toNat []).length : Int)).toNat zS27).f0) == a13) && (((((a0.getD (Int.tmod (IntKind.i64.wrap a11) (a1.length : Int)).toNat []).getD (Int.tmod (IntKind.i64.wrap a12) ((a0.getD (Int.tmod (IntKind.i64.wrap a11) (a1.length : Int)).toNat []).length : Int)).toNat zS27).f1) == a14) && true)))), (86, .bool (d4))] a ∧ St B w (Ass.box 27 a7 [ia a13, ib a14] :: os) (Ro.sl (Kd.slice kS27) (some a5) a2 a0 :: Ro.sl (Kd.slice kS27) (some a4) a3 a6 :: Ro.sl kS27 (some b0) a9 b4 :: Ro.sl kS27 b8 b9 (a1.getD (Int.tmod (IntKind.i64.wrap a11) (a1.length : Int)).toNat []) :: Ro.sl (Kd.int .u8) A9 C10 l8 :: rs) ∧ e0 d4 = some f7) (by kernel_rfl) ?_ (fun a w hI => ?_)
    ·refine EW.rg (by kernel_rfl) ?_
     refine EL.quick 2 [9, 10, 12, 69, 70] [(9, sv (some a5) a2 a0), (10, sv (some a4) a3 a6), (12, .bool ((((((a0.getD (Int.tmod (IntKind.i64.wrap a11) (a1.length : Int)).toNat []).getD (Int.tmod (IntKind.i64.wrap a12) ((a0.getD (Int.tmod (IntKind.i64.wrap a11) (a1.length : Int)).toNat []).length : Int)).toNat zS27).f0) == a13) && (((((a0.getD (Int.tmod (IntKind.i64.wrap a11) (a1.length : Int)).toNat []).getD (Int.tmod (IntKind.i64.wrap a12) ((a0.getD (Int.tmod (IntKind.i64.wrap a11) (a1.length : Int)).toNat []).length : Int)).toNat zS27).f1) == a14) && true)))), (69, sv (some a5) a2 a0), (70, sv (some a4) a3 a6)] (by kernel_rfl) ?_
     have hS := St.fr hS 0 rfl
     have hS : St B _ (Ass.box 27 a7 [ia a13, ib a14] :: os) (Ro.sl (Kd.slice kS27) (some a5) a2 a0 :: Ro.sl (Kd.slice kS27) (some a4) a3 a6 :: Ro.sl kS27 (some b0) a9 b4 :: Ro.sl kS27 b8 b9 (a1.getD (Int.tmod (IntKind.i64.wrap a11) (a1.length : Int)).toNat []) :: Ro.sl (Kd.int .u8) A9 C10 l8 :: rs) := hS.re [] [] rfl (sub_cons 3 rfl (sub_cons 0 rfl (sub_cons 1 rfl (sub_cons 2 rfl (sub_tail (sub_tail (sub_tail (sub_tail (sub_self)))))))))
     obtain ⟨d2, i2, H⟩ := b1_out H
     have hq := image_Same.calls i2 hS
     refine EL.of (EO.callD 9 [sv (some a5) a2 a0, sv (some a4) a3 a6] _ 71 (by kernel_rfl) (by kernel_rfl) (by kernel_rfl) hq ?_)
     rintro v w ⟨rfl, hS⟩
     refine EL.quick 3 [9, 10, 12, 74] [(9, sv (some a5) a2 a0), (10, sv (some a4) a3 a6), (12, .bool ((((((a0.getD (Int.tmod (IntKind.i64.wrap a11) (a1.length : Int)).toNat []).getD (Int.tmod (IntKind.i64.wrap a12) ((a0.getD (Int.tmod (IntKind.i64.wrap a11) (a1.length : Int)).toNat []).length : Int)).toNat zS27).f0) == a13) && (((((a0.getD (Int.tmod (IntKind.i64.wrap a11) (a1.length : Int)).toNat []).getD (Int.tmod (IntKind.i64.wrap a12) ((a0.getD (Int.tmod (IntKind.i64.wrap a11) (a1.length : Int)).toNat []).length : Int)).toNat zS27).f1) == a14) && true)))), (74, .bool (!((d2 == (((((a0.getD (Int.tmod (IntKind.i64.wrap a11) (a1.length : Int)).toNat []).getD (Int.tmod (IntKind.i64.wrap a12) ((a0.getD (Int.tmod (IntKind.i64.wrap a11) (a1.length : Int)).toNat []).length : Int)).toNat zS27).f0) == a13) && (((((a0.getD (Int.tmod (IntKind.i64.wrap a11) (a1.length : Int)).toNat []).getD (Int.tmod (IntKind.i64.wrap a12) ((a0.getD (Int.tmod (IntKind.i64.wrap a11) (a1.length : Int)).toNat []).length : Int)).toNat zS27).f1) == a14) && true))))))] (by kernel_rfl) ?_
     by_cases e5 : (d2 == (((((a0.getD (Int.tmod (IntKind.i64.wrap a11) (a1.length : Int)).toNat []).getD (Int.tmod (IntKind.i64.wrap a12) ((a0.getD (Int.tmod (IntKind.i64.wrap a11) (a1.length : Int)).toNat []).length : Int)).toNat zS27).f0) == a13) && (((((a0.getD (Int.tmod (IntKind.i64.wrap a11) (a1.length : Int)).toNat []).getD (Int.tmod (IntKind.i64.wrap a12) ((a0.getD (Int.tmod (IntKind.i64.wrap a11) (a1.length : Int)).toNat []).length : Int)).toNat zS27).f1) == a14) && true))) = true
     ·rw [if_pos e5] at H
      refine EL.keep [9, 10, 12, 74] [(9, sv (some a5) a2 a0), (10, sv (some a4) a3 a6), (12, .bool ((((((a0.getD (Int.tmod (IntKind.i64.wrap a11) (a1.length : Int)).toNat []).getD (Int.tmod (IntKind.i64.wrap a12) ((a0.getD (Int.tmod (IntKind.i64.wrap a11) (a1.length : Int)).toNat []).length : Int)).toNat zS27).f0) == a13) && (((((a0.getD (Int.tmod (IntKind.i64.wrap a11) (a1.length : Int)).toNat []).getD (Int.tmod (IntKind.i64.wrap a12) ((a0.getD (Int.tmod (IntKind.i64.wrap a11) (a1.length : Int)).toNat []).length : Int)).toNat zS27).f1) == a14) && true)))), (74, .bool (!((d2 == (((((a0.getD (Int.tmod (IntKind.i64.wrap a11) (a1.length : Int)).toNat []).getD (Int.tmod (IntKind.i64.wrap a12) ((a0.getD (Int.tmod (IntKind.i64.wrap a11) (a1.length : Int)).toNat []).length : Int)).toNat zS27).f0) == a13) && (((((a0.getD (Int.tmod (IntKind.i64.wrap a11) (a1.length : Int)).toNat []).getD (Int.tmod (IntKind.i64.wrap a12) ((a0.getD (Int.tmod (IntKind.i64.wrap a11) (a1.length : Int)).toNat []).length : Int)).toNat zS27).f1) == a14) && true))))))] (by kernel_rfl) ?_
      refine EL.as' [(9, sv (some a5) a2 a0), (10, sv (some a4) a3 a6), (12, .bool ((((((a0.getD (Int.tmod (IntKind.i64.wrap a11) (a1.length : Int)).toNat []).getD (Int.tmod (IntKind.i64.wrap a12) ((a0.getD (Int.tmod (IntKind.i64.wrap a11) (a1.length : Int)).toNat []).length : Int)).toNat zS27).f0) == a13) && (((((a0.getD (Int.tmod (IntKind.i64.wrap a11) (a1.length : Int)).toNat []).getD (Int.tmod (IntKind.i64.wrap a12) ((a0.getD (Int.tmod (IntKind.i64.wrap a11) (a1.length : Int)).toNat []).length : Int)).toNat zS27).f1) == a14) && true)))), (74, .bool (false))] (by simp only [encS27, sv, e5, Bool.not_true, Bool.not_false]) ?_
      refine EL.quick 2 [9, 10, 12, 74, 75, 76] [(9, sv (some a5) a2 a0), (10, sv (some a4) a3 a6), (12, .bool ((((((a0.getD (Int.tmod (IntKind.i64.wrap a11) (a1.length : Int)).toNat []).getD (Int.tmod (IntKind.i64.wrap a12) ((a0.getD (Int.tmod (IntKind.i64.wrap a11) (a1.length : Int)).toNat []).length : Int)).toNat zS27).f0) == a13) && (((((a0.getD (Int.tmod (IntKind.i64.wrap a11) (a1.length : Int)).toNat []).getD (Int.tmod (IntKind.i64.wrap a12) ((a0.getD (Int.tmod (IntKind.i64.wrap a11) (a1.length : Int)).toNat []).length : Int)).toNat zS27).f1) == a14) && true)))), (74, .bool (false)), (75, sv (some a5) a2 a0), (76, sv (some a5) a2 a0)] (by kernel_rfl) ?_
      have hS := St.nilO hS 25 (Kd.slice kS27)
      obtain ⟨g9, H⟩ := ite_in H
      obtain ⟨c7, j2, H⟩ := lt_out H
      refine EL.of (EO.append hS 24 24 25 24 0 (Kd.slice kS27) none 0 ([] : List (List S27)) rfl (some a5) a2 a0 (Rd.ro 0 rfl) c7 j2 (fun d6 d7 => Ass.own 25 (Kd.slice kS27) d6 d7 c7 :: Ass.box 27 a7 [ia a13, ib a14] :: os) 77 (by kernel_rfl) (by kernel_rfl) (by kernel_rfl) (by kernel_rfl) g9 (fun _ _ => rfl) ?_)
      intro d6 d7 w hS
      have hS := St.fr hS 0 rfl
      have hS : St B _ (Ass.box 27 a7 [ia a13, ib a14] :: os) (Ro.sl (Kd.slice kS27) (some a5) a2 a0 :: Ro.sl (Kd.slice kS27) d6 d7 c7 :: Ro.sl (Kd.slice kS27) (some a4) a3 a6 :: Ro.sl kS27 (some b0) a9 b4 :: Ro.sl kS27 b8 b9 (a1.getD (Int.tmod (IntKind.i64.wrap a11) (a1.length : Int)).toNat []) :: Ro.sl (Kd.int .u8) A9 C10 l8 :: rs) := hS.re [] [] rfl (sub_cons 1 rfl (sub_cons 0 rfl (sub_tail (sub_tail (sub_self)))))
      obtain ⟨d3, i3, H⟩ := b1_out H
      have hq := image_Same.calls i3 hS
      refine EL.of (EO.callD 9 [sv (some a5) a2 a0, sv d6 d7 c7] _ 78 (by kernel_rfl) (by kernel_rfl) (by kernel_rfl) hq ?_)
      rintro v w ⟨rfl, hS⟩
      refine EL.quick 3 [9, 10, 12, 81] [(9, sv (some a5) a2 a0), (10, sv (some a4) a3 a6), (12, .bool ((((((a0.getD (Int.tmod (IntKind.i64.wrap a11) (a1.length : Int)).toNat []).getD (Int.tmod (IntKind.i64.wrap a12) ((a0.getD (Int.tmod (IntKind.i64.wrap a11) (a1.length : Int)).toNat []).length : Int)).toNat zS27).f0) == a13) && (((((a0.getD (Int.tmod (IntKind.i64.wrap a11) (a1.length : Int)).toNat []).getD (Int.tmod (IntKind.i64.wrap a12) ((a0.getD (Int.tmod (IntKind.i64.wrap a11) (a1.length : Int)).toNat []).length : Int)).toNat zS27).f1) == a14) && true)))), (81, .bool (!(d3)))] (by kernel_rfl) ?_
      by_cases e6 : d3 = true
      ·rw [if_pos e6] at H
       refine EL.keep [9, 10, 12, 81] [(9, sv (some a5) a2 a0), (10, sv (some a4) a3 a6), (12, .bool ((((((a0.getD (Int.tmod (IntKind.i64.wrap a11) (a1.length : Int)).toNat []).getD (Int.tmod (IntKind.i64.wrap a12) ((a0.getD (Int.tmod (IntKind.i64.wrap a11) (a1.length : Int)).toNat []).length : Int)).toNat zS27).f0) == a13) && (((((a0.getD (Int.tmod (IntKind.i64.wrap a11) (a1.length : Int)).toNat []).getD (Int.tmod (IntKind.i64.wrap a12) ((a0.getD (Int.tmod (IntKind.i64.wrap a11) (a1.length : Int)).toNat []).length : Int)).toNat zS27).f1) == a14) && true)))), (81, .bool (!(d3)))] (by kernel_rfl) ?_
       refine EL.as' [(9, sv (some a5) a2 a0), (10, sv (some a4) a3 a6), (12, .bool ((((((a0.getD (Int.tmod (IntKind.i64.wrap a11) (a1.length : Int)).toNat []).getD (Int.tmod (IntKind.i64.wrap a12) ((a0.getD (Int.tmod (IntKind.i64.wrap a11) (a1.length : Int)).toNat []).length : Int)).toNat zS27).f0) == a13) && (((((a0.getD (Int.tmod (IntKind.i64.wrap a11) (a1.length : Int)).toNat []).getD (Int.tmod (IntKind.i64.wrap a12) ((a0.getD (Int.tmod (IntKind.i64.wrap a11) (a1.length : Int)).toNat []).length : Int)).toNat zS27).f1) == a14) && true)))), (81, .bool (false))] (by simp only [encS27, sv, e6, Bool.not_true, Bool.not_false]) ?_
       refine EL.quick 2 [9, 10, 12, 81, 82, 83] [(9, sv (some a5) a2 a0), (10, sv (some a4) a3 a6), (12, .bool ((((((a0.getD (Int.tmod (IntKind.i64.wrap a11) (a1.length : Int)).toNat []).getD (Int.tmod (IntKind.i64.wrap a12) ((a0.getD (Int.tmod (IntKind.i64.wrap a11) (a1.length : Int)).toNat []).length : Int)).toNat zS27).f0) == a13) && (((((a0.getD (Int.tmod (IntKind.i64.wrap a11) (a1.length : Int)).toNat []).getD (Int.tmod (IntKind.i64.wrap a12) ((a0.getD (Int.tmod (IntKind.i64.wrap a11) (a1.length : Int)).toNat []).length : Int)).toNat zS27).f1) == a14) && true)))), (81, .bool (false)), (82, sv (some a5) a2 a0), (83, sv (some a5) a2 a0)] (by kernel_rfl) ?_
       obtain ⟨m0, H⟩ := ite_in H
       obtain ⟨e1, j3, H⟩ := lt_out H
       refine EL.of (EO.sliceRo hS (Kd.slice kS27) (some a5) a2 a0 0 rfl (some (ia 1)) none none 1 a0.length a2 e1 (by rw [j3]; exact (slice_lo _ _)) 24 84 (by kernel_rfl) (by kernel_rfl) (by kernel_rfl) (by kernel_rfl) (rfl) (rfl) ⟨rfl, fun h => by first | rfl | cases h⟩ (by omega) (by omega) (.inl rfl) ?_)
       intro f8 g0 hS
       have hS : St B _ (Ass.box 27 a7 [ia a13, ib a14] :: os) (Ro.sl (Kd.slice kS27) (some a5) a2 a0 :: Ro.sl (Kd.slice kS27) f8 g0 e1 :: Ro.sl (Kd.slice kS27) d6 d7 c7 :: Ro.sl (Kd.slice kS27) (some a4) a3 a6 :: Ro.sl kS27 (some b0) a9 b4 :: Ro.sl kS27 b8 b9 (a1.getD (Int.tmod (IntKind.i64.wrap a11) (a1.length : Int)).toNat []) :: Ro.sl (Kd.int .u8) A9 C10 l8 :: rs) := hS.re [] [] rfl (sub_cons 1 rfl (sub_cons 0 rfl (sub_tail (sub_tail (sub_self)))))
       obtain ⟨e3, i4, H⟩ := b1_out H
       have hq := image_Same.calls i4 hS
       refine EL.of (EO.callD 9 [sv (some a5) a2 a0, sv f8 g0 e1] _ 85 (by kernel_rfl) (by kernel_rfl) (by kernel_rfl) hq ?_)
       rintro v w ⟨rfl, hS⟩
       refine EL.quick 1 [9, 10, 12, 86] [(9, sv (some a5) a2 a0), (10, sv (some a4) a3 a6), (12, .bool ((((((a0.getD (Int.tmod (IntKind.i64.wrap a11) (a1.length : Int)).toNat []).getD (Int.tmod (IntKind.i64.wrap a12) ((a0.getD (Int.tmod (IntKind.i64.wrap a11) (a1.length : Int)).toNat []).length : Int)).toNat zS27).f0) == a13) && (((((a0.getD (Int.tmod (IntKind.i64.wrap a11) (a1.length : Int)).toNat []).getD (Int.tmod (IntKind.i64.wrap a12) ((a0.getD (Int.tmod (IntKind.i64.wrap a11) (a1.length : Int)).toNat []).length : Int)).toNat zS27).f1) == a14) && true)))), (86, .bool (e3))] (by kernel_rfl) ?_
       refine EL.done (by kernel_rfl) ?_
       refine EQ.to ?_
       refine EQ.keep [9, 10, 12, 86] [(9, sv (some a5) a2 a0), (10, sv (some a4) a3 a6), (12, .bool ((((((a0.getD (Int.tmod (IntKind.i64.wrap a11) (a1.length : Int)).toNat []).getD (Int.tmod (IntKind.i64.wrap a12) ((a0.getD (Int.tmod (IntKind.i64.wrap a11) (a1.length : Int)).toNat []).length : Int)).toNat zS27).f0) == a13) && (((((a0.getD (Int.tmod (IntKind.i64.wrap a11) (a1.length : Int)).toNat []).getD (Int.tmod (IntKind.i64.wrap a12) ((a0.getD (Int.tmod (IntKind.i64.wrap a11) (a1.length : Int)).toNat []).length : Int)).toNat zS27).f1) == a14) && true)))), (86, .bool (e3))] (by kernel_rfl) ?_
       exact fun a ha => ⟨e3, ha, (hS.re [0] [] rfl (sub_cons 0 rfl (sub_cons 3 rfl (sub_cons 4 rfl (sub_cons 5 rfl (sub_cons 6 rfl (sub_tail (sub_tail (sub_tail (sub_tail (sub_tail (sub_tail (sub_tail (sub_self)))))))))))))), H⟩
      rw [if_neg e6] at H
      refine EL.keep [9, 10, 12, 81] [(9, sv (some a5) a2 a0), (10, sv (some a4) a3 a6), (12, .bool ((((((a0.getD (Int.tmod (IntKind.i64.wrap a11) (a1.length : Int)).toNat []).getD (Int.tmod (IntKind.i64.wrap a12) ((a0.getD (Int.tmod (IntKind.i64.wrap a11) (a1.length : Int)).toNat []).length : Int)).toNat zS27).f0) == a13) && (((((a0.getD (Int.tmod (IntKind.i64.wrap a11) (a1.length : Int)).toNat []).getD (Int.tmod (IntKind.i64.wrap a12) ((a0.getD (Int.tmod (IntKind.i64.wrap a11) (a1.length : Int)).toNat []).length : Int)).toNat zS27).f1) == a14) && true)))), (81, .bool (!(d3)))] (by kernel_rfl) ?_
      refine EL.as' [(9, sv (some a5) a2 a0), (10, sv (some a4) a3 a6), (12, .bool ((((((a0.getD (Int.tmod (IntKind.i64.wrap a11) (a1.length : Int)).toNat []).getD (Int.tmod (IntKind.i64.wrap a12) ((a0.getD (Int.tmod (IntKind.i64.wrap a11) (a1.length : Int)).toNat []).length : Int)).toNat zS27).f0) == a13) && (((((a0.getD (Int.tmod (IntKind.i64.wrap a11) (a1.length : Int)).toNat []).getD (Int.tmod (IntKind.i64.wrap a12) ((a0.getD (Int.tmod (IntKind.i64.wrap a11) (a1.length : Int)).toNat []).length : Int)).toNat zS27).f1) == a14) && true)))), (81, .bool (true))] (by simp only [encS27, sv, (Bool.eq_false_iff.2 e6), Bool.not_true, Bool.not_false]) ?_
      refine EL.quick 5 [9, 10, 12, 86] [(9, sv (some a5) a2 a0), (10, sv (some a4) a3 a6), (12, .bool ((((((a0.getD (Int.tmod (IntKind.i64.wrap a11) (a1.length : Int)).toNat []).getD (Int.tmod (IntKind.i64.wrap a12) ((a0.getD (Int.tmod (IntKind.i64.wrap a11) (a1.length : Int)).toNat []).length : Int)).toNat zS27).f0) == a13) && (((((a0.getD (Int.tmod (IntKind.i64.wrap a11) (a1.length : Int)).toNat []).getD (Int.tmod (IntKind.i64.wrap a12) ((a0.getD (Int.tmod (IntKind.i64.wrap a11) (a1.length : Int)).toNat []).length : Int)).toNat zS27).f1) == a14) && true)))), (86, .bool (true))] (by kernel_rfl) ?_
      refine EL.done (by kernel_rfl) ?_
      refine EQ.to ?_
      refine EQ.keep [9, 10, 12, 86] [(9, sv (some a5) a2 a0), (10, sv (some a4) a3 a6), (12, .bool ((((((a0.getD (Int.tmod (IntKind.i64.wrap a11) (a1.length : Int)).toNat []).getD (Int.tmod (IntKind.i64.wrap a12) ((a0.getD (Int.tmod (IntKind.i64.wrap a11) (a1.length : Int)).toNat []).length : Int)).toNat zS27).f0) == a13) && (((((a0.getD (Int.tmod (IntKind.i64.wrap a11) (a1.length : Int)).toNat []).getD (Int.tmod (IntKind.i64.wrap a12) ((a0.getD (Int.tmod (IntKind.i64.wrap a11) (a1.length : Int)).toNat []).length : Int)).toNat zS27).f1) == a14) && true)))), (86, .bool (true))] (by kernel_rfl) ?_
      exact fun a ha => ⟨true, ha, (hS.re [0] [] rfl (sub_cons 0 rfl (sub_cons 2 rfl (sub_cons 3 rfl (sub_cons 4 rfl (sub_cons 5 rfl (sub_tail (sub_tail (sub_tail (sub_tail (sub_tail (sub_tail (sub_self))))))))))))), H⟩
     rw [if_neg e5] at H
     refine EL.keep [9, 10, 12, 74] [(9, sv (some a5) a2 a0), (10, sv (some a4) a3 a6), (12, .bool ((((((a0.getD (Int.tmod (IntKind.i64.wrap a11) (a1.length : Int)).toNat []).getD (Int.tmod (IntKind.i64.wrap a12) ((a0.getD (Int.tmod (IntKind.i64.wrap a11) (a1.length : Int)).toNat []).length : Int)).toNat zS27).f0) == a13) && (((((a0.getD (Int.tmod (IntKind.i64.wrap a11) (a1.length : Int)).toNat []).getD (Int.tmod (IntKind.i64.wrap a12) ((a0.getD (Int.tmod (IntKind.i64.wrap a11) (a1.length : Int)).toNat []).length : Int)).toNat zS27).f1) == a14) && true)))), (74, .bool (!((d2 == (((((a0.getD (Int.tmod (IntKind.i64.wrap a11) (a1.length : Int)).toNat []).getD (Int.tmod (IntKind.i64.wrap a12) ((a0.getD (Int.tmod (IntKind.i64.wrap a11) (a1.length : Int)).toNat []).length : Int)).toNat zS27).f0) == a13) && (((((a0.getD (Int.tmod (IntKind.i64.wrap a11) (a1.length : Int)).toNat []).getD (Int.tmod (IntKind.i64.wrap a12) ((a0.getD (Int.tmod (IntKind.i64.wrap a11) (a1.length : Int)).toNat []).length : Int)).toNat zS27).f1) == a14) && true))))))] (by kernel_rfl) ?_
     refine EL.as' [(9, sv (some a5) a2 a0), (10, sv (some a4) a3 a6), (12, .bool ((((((a0.getD (Int.tmod (IntKind.i64.wrap a11) (a1.length : Int)).toNat []).getD (Int.tmod (IntKind.i64.wrap a12) ((a0.getD (Int.tmod (IntKind.i64.wrap a11) (a1.length : Int)).toNat []).length : Int)).toNat zS27).f0) == a13) && (((((a0.getD (Int.tmod (IntKind.i64.wrap a11) (a1.length : Int)).toNat []).getD (Int.tmod (IntKind.i64.wrap a12) ((a0.getD (Int.tmod (IntKind.i64.wrap a11) (a1.length : Int)).toNat []).length : Int)).toNat zS27).f1) == a14) && true)))), (74, .bool (true))] (by simp only [encS27, sv, (Bool.eq_false_iff.2 e5), Bool.not_true, Bool.not_false]) ?_
     refine EL.quick 12 [9, 10, 12, 86] [(9, sv (some a5) a2 a0), (10, sv (some a4) a3 a6), (12, .bool ((((((a0.getD (Int.tmod (IntKind.i64.wrap a11) (a1.length : Int)).toNat []).getD (Int.tmod (IntKind.i64.wrap a12) ((a0.getD (Int.tmod (IntKind.i64.wrap a11) (a1.length : Int)).toNat []).length : Int)).toNat zS27).f0) == a13) && (((((a0.getD (Int.tmod (IntKind.i64.wrap a11) (a1.length : Int)).toNat []).getD (Int.tmod (IntKind.i64.wrap a12) ((a0.getD (Int.tmod (IntKind.i64.wrap a11) (a1.length : Int)).toNat []).length : Int)).toNat zS27).f1) == a14) && true)))), (86, .bool (true))] (by kernel_rfl) ?_
     refine EL.done (by kernel_rfl) ?_
     refine EQ.to ?_
     refine EQ.keep [9, 10, 12, 86] [(9, sv (some a5) a2 a0), (10, sv (some a4) a3 a6), (12, .bool ((((((a0.getD (Int.tmod (IntKind.i64.wrap a11) (a1.length : Int)).toNat []).getD (Int.tmod (IntKind.i64.wrap a12) ((a0.getD (Int.tmod (IntKind.i64.wrap a11) (a1.length : Int)).toNat []).length : Int)).toNat zS27).f0) == a13) && (((((a0.getD (Int.tmod (IntKind.i64.wrap a11) (a1.length : Int)).toNat []).getD (Int.tmod (IntKind.i64.wrap a12) ((a0.getD (Int.tmod (IntKind.i64.wrap a11) (a1.length : Int)).toNat []).length : Int)).toNat zS27).f1) == a14) && true)))), (86, .bool (true))] (by kernel_rfl) ?_
     exact fun a ha => ⟨true, ha, (hS.re [0] [] rfl (sub_cons 0 rfl (sub_cons 1 rfl (sub_cons 2 rfl (sub_cons 3 rfl (sub_cons 4 rfl (sub_tail (sub_tail (sub_tail (sub_tail (sub_tail (sub_self)))))))))))), H⟩
    obtain ⟨d4, ha, hS, H⟩ := hI
    rw [i9] at H
    (try dsimp only at H)
    refine EW.at ?_ a ha
    clear ha a
    refine EW.cdP' (d4) (by kernel_rfl) (by kernel_rfl) (fun f6 => ?_) (fun f6 => ?_)
    ·rw [if_pos f6] at H
     refine EW.sq (by kernel_rfl) ?_
     refine EW.rg (by kernel_rfl) ?_
     refine EL.quick 1 [8] [(8, .bool (false))] (by kernel_rfl) ?_
     refine EL.done (by kernel_rfl) ?_
     refine EQ.code ?_
     refine EW.ret (by kernel_rfl) ?_
     refine EQ.ret ?_
     obtain rfl := Option.some.inj H
     exact EQ.leave (.bool (false)) (by kernel_rfl) ⟨_, rfl, rfl, (hS.re [] [0] rfl (sub_tail (sub_tail (sub_tail (sub_tail (sub_self))))))⟩
    rw [if_neg f6] at H
    refine EW.skip (by kernel_rfl) ?_
    refine EQ.code ?_
    refine EW.sq (by kernel_rfl) ?_
    refine EW.rg (by kernel_rfl) ?_
    refine EL.quick 1 [9, 10, 12, 88] [(9, sv (some a5) a2 a0), (10, sv (some a4) a3 a6), (12, .bool ((((((a0.getD (Int.tmod (IntKind.i64.wrap a11) (a1.length : Int)).toNat []).getD (Int.tmod (IntKind.i64.wrap a12) ((a0.getD (Int.tmod (IntKind.i64.wrap a11) (a1.length : Int)).toNat []).length : Int)).toNat zS27).f0) == a13) && (((((a0.getD (Int.tmod (IntKind.i64.wrap a11) (a1.length : Int)).toNat []).getD (Int.tmod (IntKind.i64.wrap a12) ((a0.getD (Int.tmod (IntKind.i64.wrap a11) (a1.length : Int)).toNat []).length : Int)).toNat zS27).f1) == a14) && true)))), (88, sv (some a5) a2 a0)] (by kernel_rfl) ?_
    have hS : St B _ (Ass.box 27 a7 [ia a13, ib a14] :: os) (Ro.sl (Kd.slice kS27) (some a5) a2 a0 :: Ro.sl (Kd.slice kS27) (some a4) a3 a6 :: Ro.sl kS27 (some b0) a9 b4 :: Ro.sl kS27 b8 b9 (a1.getD (Int.tmod (IntKind.i64.wrap a11) (a1.length : Int)).toNat []) :: Ro.sl (Kd.int .u8) A9 C10 l8 :: rs) := hS.re [] [] rfl (sub_cons 0 rfl (sub_tail (sub_self)))
    obtain ⟨b5, j4, i5, H⟩ := b2_out H
    have hq := image_Put.calls i5 hS
    refine EL.of (EO.callD 6 [sv (some a5) a2 a0] _ 89 (by kernel_rfl) (by kernel_rfl) (by kernel_rfl) hq ?_)
    rintro v w ⟨c0, c1, rfl, hS⟩
    refine EL.quick 5 [9, 10, 12, 13] [(9, sv (some a5) a2 a0), (10, sv (some a4) a3 a6), (12, .bool ((((((a0.getD (Int.tmod (IntKind.i64.wrap a11) (a1.length : Int)).toNat []).getD (Int.tmod (IntKind.i64.wrap a12) ((a0.getD (Int.tmod (IntKind.i64.wrap a11) (a1.length : Int)).toNat []).length : Int)).toNat zS27).f0) == a13) && (((((a0.getD (Int.tmod (IntKind.i64.wrap a11) (a1.length : Int)).toNat []).getD (Int.tmod (IntKind.i64.wrap a12) ((a0.getD (Int.tmod (IntKind.i64.wrap a11) (a1.length : Int)).toNat []).length : Int)).toNat zS27).f1) == a14) && true)))), (13, sv c0 c1 b5)] (by kernel_rfl) ?_
    refine EL.done (by kernel_rfl) ?_
    refine EQ.code ?_
    refine EW.sq (by kernel_rfl) ?_
    refine EW.rg (by kernel_rfl) ?_
    refine EL.quick 1 [9, 10, 12, 13, 93] [(9, sv (some a5) a2 a0), (10, sv (some a4) a3 a6), (12, .bool ((((((a0.getD (Int.tmod (IntKind.i64.wrap a11) (a1.length : Int)).toNat []).getD (Int.tmod (IntKind.i64.wrap a12) ((a0.getD (Int.tmod (IntKind.i64.wrap a11) (a1.length : Int)).toNat []).length : Int)).toNat zS27).f0) == a13) && (((((a0.getD (Int.tmod (IntKind.i64.wrap a11) (a1.length : Int)).toNat []).getD (Int.tmod (IntKind.i64.wrap a12) ((a0.getD (Int.tmod (IntKind.i64.wrap a11) (a1.length : Int)).toNat []).length : Int)).toNat zS27).f1) == a14) && true)))), (13, sv c0 c1 b5), (93, sv (some a4) a3 a6)] (by kernel_rfl) ?_
    have hS : St B _ (Ass.own 5 (Kd.int .u8) c0 c1 b5 :: Ass.box 27 a7 [ia a13, ib a14] :: os) (Ro.sl (Kd.slice kS27) (some a4) a3 a6 :: Ro.sl (Kd.slice kS27) (some a5) a2 a0 :: Ro.sl kS27 (some b0) a9 b4 :: Ro.sl kS27 b8 b9 (a1.getD (Int.tmod (IntKind.i64.wrap a11) (a1.length : Int)).toNat []) :: Ro.sl (Kd.int .u8) A9 C10 l8 :: rs) := hS.re [] [] rfl (sub_cons 1 rfl (sub_cons 0 rfl (sub_tail (sub_tail (sub_self)))))
    obtain ⟨b7, c8, i6, H⟩ := b2_out H
    have hq := image_Put.calls i6 hS
    refine EL.of (EO.callD 6 [sv (some a4) a3 a6] _ 94 (by kernel_rfl) (by kernel_rfl) (by kernel_rfl) hq ?_)
    rintro v w ⟨c2, c3, rfl, hS⟩
    refine EL.quick 5 [9, 10, 12, 13, 15, 16] [(9, sv (some a5) a2 a0), (10, sv (some a4) a3 a6), (12, .bool ((((((a0.getD (Int.tmod (IntKind.i64.wrap a11) (a1.length : Int)).toNat []).getD (Int.tmod (IntKind.i64.wrap a12) ((a0.getD (Int.tmod (IntKind.i64.wrap a11) (a1.length : Int)).toNat []).length : Int)).toNat zS27).f0) == a13) && (((((a0.getD (Int.tmod (IntKind.i64.wrap a11) (a1.length : Int)).toNat []).getD (Int.tmod (IntKind.i64.wrap a12) ((a0.getD (Int.tmod (IntKind.i64.wrap a11) (a1.length : Int)).toNat []).length : Int)).toNat zS27).f1) == a14) && true)))), (13, sv c0 c1 b5), (15, sv c2 c3 b7), (16, ia c8)] (by kernel_rfl) ?_
    refine EL.done (by kernel_rfl) ?_
    refine EQ.code ?_
    refine EW.sq (by kernel_rfl) ?_
    refine EW.rg (by kernel_rfl) ?_
    refine EL.quick 3 [9, 10, 12, 13, 15, 99] [(9, sv (some a5) a2 a0), (10, sv (some a4) a3 a6), (12, .bool ((((((a0.getD (Int.tmod (IntKind.i64.wrap a11) (a1.length : Int)).toNat []).getD (Int.tmod (IntKind.i64.wrap a12) ((a0.getD (Int.tmod (IntKind.i64.wrap a11) (a1.length : Int)).toNat []).length : Int)).toNat zS27).f0) == a13) && (((((a0.getD (Int.tmod (IntKind.i64.wrap a11) (a1.length : Int)).toNat []).getD (Int.tmod (IntKind.i64.wrap a12) ((a0.getD (Int.tmod (IntKind.i64.wrap a11) (a1.length : Int)).toNat []).length : Int)).toNat zS27).f1) == a14) && true)))), (13, sv c0 c1 b5), (15, sv c2 c3 b7), (99, .bool (!(decide (c8 = 0))))] (by kernel_rfl) ?_
    by_cases e7 : c8 = 0
    ·rw [if_pos e7] at H
     refine EL.keep [9, 10, 12, 13, 15, 99] [(9, sv (some a5) a2 a0), (10, sv (some a4) a3 a6), (12, .bool ((((((a0.getD (Int.tmod (IntKind.i64.wrap a11) (a1.length : Int)).toNat []).getD (Int.tmod (IntKind.i64.wrap a12) ((a0.getD (Int.tmod (IntKind.i64.wrap a11) (a1.length : Int)).toNat []).length : Int)).toNat zS27).f0) == a13) && (((((a0.getD (Int.tmod (IntKind.i64.wrap a11) (a1.length : Int)).toNat []).getD (Int.tmod (IntKind.i64.wrap a12) ((a0.getD (Int.tmod (IntKind.i64.wrap a11) (a1.length : Int)).toNat []).length : Int)).toNat zS27).f1) == a14) && true)))), (13, sv c0 c1 b5), (15, sv c2 c3 b7), (99, .bool (!(decide (c8 = 0))))] (by kernel_rfl) ?_
     refine EL.as' [(9, sv (some a5) a2 a0), (10, sv (some a4) a3 a6), (12, .bool ((((((a0.getD (Int.tmod (IntKind.i64.wrap a11) (a1.length : Int)).toNat []).getD (Int.tmod (IntKind.i64.wrap a12) ((a0.getD (Int.tmod (IntKind.i64.wrap a11) (a1.length : Int)).toNat []).length : Int)).toNat zS27).f0) == a13) && (((((a0.getD (Int.tmod (IntKind.i64.wrap a11) (a1.length : Int)).toNat []).getD (Int.tmod (IntKind.i64.wrap a12) ((a0.getD (Int.tmod (IntKind.i64.wrap a11) (a1.length : Int)).toNat []).length : Int)).toNat zS27).f1) == a14) && true)))), (13, sv c0 c1 b5), (15, sv c2 c3 b7), (99, .bool (false))] (by simp only [encS27, sv, dec_t e7, Bool.not_true, Bool.not_false]) ?_
     refine EL.quick 1 [9, 10, 12, 15, 99, 100] [(9, sv (some a5) a2 a0), (10, sv (some a4) a3 a6), (12, .bool ((((((a0.getD (Int.tmod (IntKind.i64.wrap a11) (a1.length : Int)).toNat []).getD (Int.tmod (IntKind.i64.wrap a12) ((a0.getD (Int.tmod (IntKind.i64.wrap a11) (a1.length : Int)).toNat []).length : Int)).toNat zS27).f0) == a13) && (((((a0.getD (Int.tmod (IntKind.i64.wrap a11) (a1.length : Int)).toNat []).getD (Int.tmod (IntKind.i64.wrap a12) ((a0.getD (Int.tmod (IntKind.i64.wrap a11) (a1.length : Int)).toNat []).length : Int)).toNat zS27).f1) == a14) && true)))), (15, sv c2 c3 b7), (99, .bool (false)), (100, sv c0 c1 b5)] (by kernel_rfl) ?_
     refine EL.of (EO.Y (YO.bstr hS c0 c1 b5 (Rd.own 1 5 rfl) 28 9 5 101 (by kernel_rfl) (by kernel_rfl) (by kernel_rfl) (by kernel_rfl) (by kernel_rfl) (by kernel_rfl)) ?_)
     refine EL.quick 1 [9, 10, 12, 99, 101, 102] [(9, sv (some a5) a2 a0), (10, sv (some a4) a3 a6), (12, .bool ((((((a0.getD (Int.tmod (IntKind.i64.wrap a11) (a1.length : Int)).toNat []).getD (Int.tmod (IntKind.i64.wrap a12) ((a0.getD (Int.tmod (IntKind.i64.wrap a11) (a1.length : Int)).toNat []).length : Int)).toNat zS27).f0) == a13) && (((((a0.getD (Int.tmod (IntKind.i64.wrap a11) (a1.length : Int)).toNat []).getD (Int.tmod (IntKind.i64.wrap a12) ((a0.getD (Int.tmod (IntKind.i64.wrap a11) (a1.length : Int)).toNat []).length : Int)).toNat zS27).f1) == a14) && true)))), (99, .bool (false)), (101, .string (bStr b5)), (102, sv c2 c3 b7)] (by kernel_rfl) ?_
     refine EL.of (EO.Y (YO.bstr hS c2 c3 b7 (Rd.own 0 5 rfl) 28 9 5 103 (by kernel_rfl) (by kernel_rfl) (by kernel_rfl) (by kernel_rfl) (by kernel_rfl) (by kernel_rfl)) ?_)
     refine EL.quick 4 [9, 10, 12, 99, 107] [(9, sv (some a5) a2 a0), (10, sv (some a4) a3 a6), (12, .bool ((((((a0.getD (Int.tmod (IntKind.i64.wrap a11) (a1.length : Int)).toNat []).getD (Int.tmod (IntKind.i64.wrap a12) ((a0.getD (Int.tmod (IntKind.i64.wrap a11) (a1.length : Int)).toNat []).length : Int)).toNat zS27).f0) == a13) && (((((a0.getD (Int.tmod (IntKind.i64.wrap a11) (a1.length : Int)).toNat []).getD (Int.tmod (IntKind.i64.wrap a12) ((a0.getD (Int.tmod (IntKind.i64.wrap a11) (a1.length : Int)).toNat []).length : Int)).toNat zS27).f1) == a14) && true)))), (99, .bool (false)), (107, .bool ((((bStr b5).toList == (bStr b7).toList) == (((((a0.getD (Int.tmod (IntKind.i64.wrap a11) (a1.length : Int)).toNat []).getD (Int.tmod (IntKind.i64.wrap a12) ((a0.getD (Int.tmod (IntKind.i64.wrap a11) (a1.length : Int)).toNat []).length : Int)).toNat zS27).f0) == a13) && (((((a0.getD (Int.tmod (IntKind.i64.wrap a11) (a1.length : Int)).toNat []).getD (Int.tmod (IntKind.i64.wrap a12) ((a0.getD (Int.tmod (IntKind.i64.wrap a11) (a1.length : Int)).toNat []).length : Int)).toNat zS27).f1) == a14) && true)))))] (by kernel_rfl) ?_
     by_cases e8 : (((bStr b5).toList == (bStr b7).toList) == (((((a0.getD (Int.tmod (IntKind.i64.wrap a11) (a1.length : Int)).toNat []).getD (Int.tmod (IntKind.i64.wrap a12) ((a0.getD (Int.tmod (IntKind.i64.wrap a11) (a1.length : Int)).toNat []).length : Int)).toNat zS27).f0) == a13) && (((((a0.getD (Int.tmod (IntKind.i64.wrap a11) (a1.length : Int)).toNat []).getD (Int.tmod (IntKind.i64.wrap a12) ((a0.getD (Int.tmod (IntKind.i64.wrap a11) (a1.length : Int)).toNat []).length : Int)).toNat zS27).f1) == a14) && true))) = true
     ·rw [if_pos e8] at H
      refine EL.keep [9, 10, 12, 99, 107] [(9, sv (some a5) a2 a0), (10, sv (some a4) a3 a6), (12, .bool ((((((a0.getD (Int.tmod (IntKind.i64.wrap a11) (a1.length : Int)).toNat []).getD (Int.tmod (IntKind.i64.wrap a12) ((a0.getD (Int.tmod (IntKind.i64.wrap a11) (a1.length : Int)).toNat []).length : Int)).toNat zS27).f0) == a13) && (((((a0.getD (Int.tmod (IntKind.i64.wrap a11) (a1.length : Int)).toNat []).getD (Int.tmod (IntKind.i64.wrap a12) ((a0.getD (Int.tmod (IntKind.i64.wrap a11) (a1.length : Int)).toNat []).length : Int)).toNat zS27).f1) == a14) && true)))), (99, .bool (false)), (107, .bool ((((bStr b5).toList == (bStr b7).toList) == (((((a0.getD (Int.tmod (IntKind.i64.wrap a11) (a1.length : Int)).toNat []).getD (Int.tmod (IntKind.i64.wrap a12) ((a0.getD (Int.tmod (IntKind.i64.wrap a11) (a1.length : Int)).toNat []).length : Int)).toNat zS27).f0) == a13) && (((((a0.getD (Int.tmod (IntKind.i64.wrap a11) (a1.length : Int)).toNat []).getD (Int.tmod (IntKind.i64.wrap a12) ((a0.getD (Int.tmod (IntKind.i64.wrap a11) (a1.length : Int)).toNat []).length : Int)).toNat zS27).f1) == a14) && true)))))] (by kernel_rfl) ?_
      refine EL.as' [(9, sv (some a5) a2 a0), (10, sv (some a4) a3 a6), (12, .bool ((((((a0.getD (Int.tmod (IntKind.i64.wrap a11) (a1.length : Int)).toNat []).getD (Int.tmod (IntKind.i64.wrap a12) ((a0.getD (Int.tmod (IntKind.i64.wrap a11) (a1.length : Int)).toNat []).length : Int)).toNat zS27).f0) == a13) && (((((a0.getD (Int.tmod (IntKind.i64.wrap a11) (a1.length : Int)).toNat []).getD (Int.tmod (IntKind.i64.wrap a12) ((a0.getD (Int.tmod (IntKind.i64.wrap a11) (a1.length : Int)).toNat []).length : Int)).toNat zS27).f1) == a14) && true)))), (99, .bool (false)), (107, .bool (true))] (by simp only [encS27, sv, e8, Bool.not_true, Bool.not_false]) ?_
      refine EL.quick 1 [10, 12, 99, 107, 108] [(10, sv (some a4) a3 a6), (12, .bool ((((((a0.getD (Int.tmod (IntKind.i64.wrap a11) (a1.length : Int)).toNat []).getD (Int.tmod (IntKind.i64.wrap a12) ((a0.getD (Int.tmod (IntKind.i64.wrap a11) (a1.length : Int)).toNat []).length : Int)).toNat zS27).f0) == a13) && (((((a0.getD (Int.tmod (IntKind.i64.wrap a11) (a1.length : Int)).toNat []).getD (Int.tmod (IntKind.i64.wrap a12) ((a0.getD (Int.tmod (IntKind.i64.wrap a11) (a1.length : Int)).toNat []).length : Int)).toNat zS27).f1) == a14) && true)))), (99, .bool (false)), (107, .bool (true)), (108, sv (some a5) a2 a0)] (by kernel_rfl) ?_
      have hS : St B _ (Ass.own 5 (Kd.int .u8) c2 c3 b7 :: Ass.own 5 (Kd.int .u8) c0 c1 b5 :: Ass.box 27 a7 [ia a13, ib a14] :: os) (Ro.sl (Kd.slice kS27) (some a5) a2 a0 :: Ro.sl (Kd.slice kS27) (some a4) a3 a6 :: Ro.sl kS27 (some b0) a9 b4 :: Ro.sl kS27 b8 b9 (a1.getD (Int.tmod (IntKind.i64.wrap a11) (a1.length : Int)).toNat []) :: Ro.sl (Kd.int .u8) A9 C10 l8 :: rs) := hS.re [] [] rfl (sub_cons 1 rfl (sub_cons 0 rfl (sub_tail (sub_tail (sub_self)))))
      obtain ⟨e4, i7, H⟩ := b1_out H
      have hq := image_Text.calls i7 hS gB
      refine EL.of (EO.callD 10 [sv (some a5) a2 a0] _ 109 (by kernel_rfl) (by kernel_rfl) (by kernel_rfl) hq ?_)
      rintro v w ⟨rfl, hS⟩
      refine EL.quick 1 [12, 99, 107, 109, 110] [(12, .bool ((((((a0.getD (Int.tmod (IntKind.i64.wrap a11) (a1.length : Int)).toNat []).getD (Int.tmod (IntKind.i64.wrap a12) ((a0.getD (Int.tmod (IntKind.i64.wrap a11) (a1.length : Int)).toNat []).length : Int)).toNat zS27).f0) == a13) && (((((a0.getD (Int.tmod (IntKind.i64.wrap a11) (a1.length : Int)).toNat []).getD (Int.tmod (IntKind.i64.wrap a12) ((a0.getD (Int.tmod (IntKind.i64.wrap a11) (a1.length : Int)).toNat []).length : Int)).toNat zS27).f1) == a14) && true)))), (99, .bool (false)), (107, .bool (true)), (109, .string e4), (110, sv (some a4) a3 a6)] (by kernel_rfl) ?_
      have hS : St B _ (Ass.own 5 (Kd.int .u8) c2 c3 b7 :: Ass.own 5 (Kd.int .u8) c0 c1 b5 :: Ass.box 27 a7 [ia a13, ib a14] :: os) (Ro.sl (Kd.slice kS27) (some a4) a3 a6 :: Ro.sl (Kd.slice kS27) (some a5) a2 a0 :: Ro.sl kS27 (some b0) a9 b4 :: Ro.sl kS27 b8 b9 (a1.getD (Int.tmod (IntKind.i64.wrap a11) (a1.length : Int)).toNat []) :: Ro.sl (Kd.int .u8) A9 C10 l8 :: rs) := hS.re [] [] rfl (sub_cons 1 rfl (sub_cons 0 rfl (sub_tail (sub_tail (sub_self)))))
      obtain ⟨f2, i8, H⟩ := b1_out H
      have hq := image_Text.calls i8 hS gB
      refine EL.of (EO.callD 10 [sv (some a4) a3 a6] _ 111 (by kernel_rfl) (by kernel_rfl) (by kernel_rfl) hq ?_)
      rintro v w ⟨rfl, hS⟩
      refine EL.quick 6 [8] [(8, .bool (((e4.toList == f2.toList) == (((((a0.getD (Int.tmod (IntKind.i64.wrap a11) (a1.length : Int)).toNat []).getD (Int.tmod (IntKind.i64.wrap a12) ((a0.getD (Int.tmod (IntKind.i64.wrap a11) (a1.length : Int)).toNat []).length : Int)).toNat zS27).f0) == a13) && (((((a0.getD (Int.tmod (IntKind.i64.wrap a11) (a1.length : Int)).toNat []).getD (Int.tmod (IntKind.i64.wrap a12) ((a0.getD (Int.tmod (IntKind.i64.wrap a11) (a1.length : Int)).toNat []).length : Int)).toNat zS27).f1) == a14) && true)))))] (by kernel_rfl) ?_
      refine EL.done (by kernel_rfl) ?_
      refine EQ.code ?_
      refine EW.ret (by kernel_rfl) ?_
      obtain rfl := Option.some.inj H
      exact EQ.leave (.bool (((e4.toList == f2.toList) == (((((a0.getD (Int.tmod (IntKind.i64.wrap a11) (a1.length : Int)).toNat []).getD (Int.tmod (IntKind.i64.wrap a12) ((a0.getD (Int.tmod (IntKind.i64.wrap a11) (a1.length : Int)).toNat []).length : Int)).toNat zS27).f0) == a13) && (((((a0.getD (Int.tmod (IntKind.i64.wrap a11) (a1.length : Int)).toNat []).getD (Int.tmod (IntKind.i64.wrap a12) ((a0.getD (Int.tmod (IntKind.i64.wrap a11) (a1.length : Int)).toNat []).length : Int)).toNat zS27).f1) == a14) && true))))) (by kernel_rfl) ⟨_, rfl, rfl, (hS.re [] [0, 0, 0] rfl (sub_tail (sub_tail (sub_tail (sub_tail (sub_self))))))⟩
     rw [if_neg e8] at H
     refine EL.keep [9, 10, 12, 99, 107] [(9, sv (some a5) a2 a0), (10, sv (some a4) a3 a6), (12, .bool ((((((a0.getD (Int.tmod (IntKind.i64.wrap a11) (a1.length : Int)).toNat []).getD (Int.tmod (IntKind.i64.wrap a12) ((a0.getD (Int.tmod (IntKind.i64.wrap a11) (a1.length : Int)).toNat []).length : Int)).toNat zS27).f0) == a13) && (((((a0.getD (Int.tmod (IntKind.i64.wrap a11) (a1.length : Int)).toNat []).getD (Int.tmod (IntKind.i64.wrap a12) ((a0.getD (Int.tmod (IntKind.i64.wrap a11) (a1.length : Int)).toNat []).length : Int)).toNat zS27).f1) == a14) && true)))), (99, .bool (false)), (107, .bool ((((bStr b5).toList == (bStr b7).toList) == (((((a0.getD (Int.tmod (IntKind.i64.wrap a11) (a1.length : Int)).toNat []).getD (Int.tmod (IntKind.i64.wrap a12) ((a0.getD (Int.tmod (IntKind.i64.wrap a11) (a1.length : Int)).toNat []).length : Int)).toNat zS27).f0) == a13) && (((((a0.getD (Int.tmod (IntKind.i64.wrap a11) (a1.length : Int)).toNat []).getD (Int.tmod (IntKind.i64.wrap a12) ((a0.getD (Int.tmod (IntKind.i64.wrap a11) (a1.length : Int)).toNat []).length : Int)).toNat zS27).f1) == a14) && true)))))] (by kernel_rfl) ?_
     refine EL.as' [(9, sv (some a5) a2 a0), (10, sv (some a4) a3 a6), (12, .bool ((((((a0.getD (Int.tmod (IntKind.i64.wrap a11) (a1.length : Int)).toNat []).getD (Int.tmod (IntKind.i64.wrap a12) ((a0.getD (Int.tmod (IntKind.i64.wrap a11) (a1.length : Int)).toNat []).length : Int)).toNat zS27).f0) == a13) && (((((a0.getD (Int.tmod (IntKind.i64.wrap a11) (a1.length : Int)).toNat []).getD (Int.tmod (IntKind.i64.wrap a12) ((a0.getD (Int.tmod (IntKind.i64.wrap a11) (a1.length : Int)).toNat []).length : Int)).toNat zS27).f1) == a14) && true)))), (99, .bool (false)), (107, .bool (false))] (by simp only [encS27, sv, (Bool.eq_false_iff.2 e8), Bool.not_true, Bool.not_false]) ?_
     refine EL.quick 10 [8] [(8, .bool (false))] (by kernel_rfl) ?_
     refine EL.done (by kernel_rfl) ?_
     refine EQ.code ?_
     refine EW.ret (by kernel_rfl) ?_
     obtain rfl := Option.some.inj H
     exact EQ.leave (.bool (false)) (by kernel_rfl) ⟨_, rfl, rfl, (hS.re [] [0, 0, 0] rfl (sub_tail (sub_tail (sub_tail (sub_tail (sub_self))))))⟩
    rw [if_neg e7] at H
    refine EL.keep [9, 10, 12, 13, 15, 99] [(9, sv (some a5) a2 a0), (10, sv (some a4) a3 a6), (12, .bool ((((((a0.getD (Int.tmod (IntKind.i64.wrap a11) (a1.length : Int)).toNat []).getD (Int.tmod (IntKind.i64.wrap a12) ((a0.getD (Int.tmod (IntKind.i64.wrap a11) (a1.length : Int)).toNat []).length : Int)).toNat zS27).f0) == a13) && (((((a0.getD (Int.tmod (IntKind.i64.wrap a11) (a1.length : Int)).toNat []).getD (Int.tmod (IntKind.i64.wrap a12) ((a0.getD (Int.tmod (IntKind.i64.wrap a11) (a1.length : Int)).toNat []).length : Int)).toNat zS27).f1) == a14) && true)))), (13, sv c0 c1 b5), (15, sv c2 c3 b7), (99, .bool (!(decide (c8 = 0))))] (by kernel_rfl) ?_
    refine EL.as' [(9, sv (some a5) a2 a0), (10, sv (some a4) a3 a6), (12, .bool ((((((a0.getD (Int.tmod (IntKind.i64.wrap a11) (a1.length : Int)).toNat []).getD (Int.tmod (IntKind.i64.wrap a12) ((a0.getD (Int.tmod (IntKind.i64.wrap a11) (a1.length : Int)).toNat []).length : Int)).toNat zS27).f0) == a13) && (((((a0.getD (Int.tmod (IntKind.i64.wrap a11) (a1.length : Int)).toNat []).getD (Int.tmod (IntKind.i64.wrap a12) ((a0.getD (Int.tmod (IntKind.i64.wrap a11) (a1.length : Int)).toNat []).length : Int)).toNat zS27).f1) == a14) && true)))), (13, sv c0 c1 b5), (15, sv c2 c3 b7), (99, .bool (true))] (by simp only [encS27, sv, dec_f e7, Bool.not_true, Bool.not_false]) ?_
    refine EL.quick 18 [8] [(8, .bool (true))] (by kernel_rfl) ?_
    refine EL.done (by kernel_rfl) ?_
    refine EQ.code ?_
    refine EW.ret (by kernel_rfl) ?_
    obtain rfl := Option.some.inj H
    exact EQ.leave (.bool (true)) (by kernel_rfl) ⟨_, rfl, rfl, (hS.re [] [0, 0, 0] rfl (sub_tail (sub_tail (sub_tail (sub_tail (sub_self))))))⟩
 rw [if_neg f4] at H
 refine EW.sq (by kernel_rfl) ?_
 refine EW.rg (by kernel_rfl) ?_
 refine EL.quick 1 [8] [(8, .bool (false))] (by kernel_rfl) ?_
 refine EL.done (by kernel_rfl) ?_
 refine EQ.code ?_
 refine EW.ret (by kernel_rfl) ?_
 refine EQ.ret ?_
 obtain rfl := Option.some.inj H
 exact EQ.leave (.bool (false)) (by kernel_rfl) ⟨_, rfl, rfl, (hS.re [] [0] rfl (sub_self))⟩

def okS27 (s : S27) : Prop := ((Lit.int .i64 s.f0).wf = true) ∧ ((Lit.int .i32 s.f1).wf = true) ∧ True
theorem oS27 : Opens Tryd.prog 27 kS27 okS27 := Opens.struct (fun s : S27 => (s.f0, s.f1, ())) (fun a => ⟨a.1, a.2.1⟩) (fun _ => rfl) Tryd.underlying27 (OpensF.cons (Opens.int Tryd.underlying3) (OpensF.cons (Opens.int Tryd.underlying21) OpensF.nil rfl (by kernel_rfl)) rfl (by kernel_rfl)) (by kernel_rfl)
def confidantlaw7_ImageSames.Pure : Prop := ∀ (l8 : List Int) (a11 : Int) (a12 : Int) (a13 : Int) (a14 : Int), l8.length * 1 ≤ 140737488351232 → (∀ x ∈ l8, (Lit.int .u8 x).wf = true) → (Lit.int .u8 a11).wf = true → (Lit.int .u8 a12).wf = true → (Lit.int .i64 a13).wf = true → (Lit.int .i32 a14).wf = true → ∃ K, confidantlaw7_ImageSames.f K l8 a11 a12 a13 a14 = some true

end Go.Proofs.YtiilloijkbabbaaDoor.G
