import Derived.Test.YtiilloijkbabbaaGreatDoorProg
import Derived.Test.YtiilloijkbabbaaGreatDoorFwShort
import Derived.Test.YtiilloijkbabbaaGreatDoorFwOpen
import Derived.Test.YtiilloijkbabbaaGreatDoorDoor
import Derived.Test.YtiilloijkbabbaaGreatDoorG0
import Derived.Test.YtiilloijkbabbaaGreatDoorG1
import Derived.Test.YtiilloijkbabbaaGreatDoorG2
import Derived.Test.YtiilloijkbabbaaGreatDoorG3
import Derived.Test.YtiilloijkbabbaaGreatDoorG5
namespace Go.Proofs.YtiilloijkbabbaaGreatDoor.G
open Go Go.Fw Go.RowKit Go.Proofs
set_option linter.unusedVariables false
set_option linter.unusedSimpArgs false

/-! ### confidant/confidantlaw7.ImageTells: function 4 -/
def confidantlaw7_ImageTells.l0 (K : Nat) (a0 : List (List (List S59))) (l20 : List Int) (a4 : List (List S59)) : Nat → Int → Option Bool
 | 0, _ => none
 | n + 1, a1 => if a1 < (a0.length : Int) then (lt (fun (j0 : List Int) (j1 : List Int) => (confidantlaw7_ImageTells.l0 K a0 l20 a4 n (IntKind.i64.wrap (a1 + 1)))) fun i9 => (if 0 ≤ a1 then (b2 (image_Put.f K (a0.getD a1.toNat [])) fun (a9 : List Int) (e0 : Int) => (b2 (confidantref5_ImagePut.f K (a0.getD a1.toNat [])) fun (a8 : List Int) (b8 : Int) => (lt (fun (f8 : Bool) => (if f8 = true then (some false) else (if b8 = 0 then (if (([] : List Int).length + a8.length) * 1 ≤ 140737488355328 then (lt (([] : List Int) ++ a8) fun f1 => (if (f1.length + l20.length) * 1 ≤ 140737488355328 then (lt (f1 ++ l20) fun d4 => (b2 (pack_New.f K d4) fun (e1 : List Int) (m0 : Int) => (b4 (image_Take.f K e1 m0) fun (d3 : List Int) (e2 : Int) (c0 : List (List S59)) (e3 : Bool) => (b1 (image_Text.f K (a0.getD a1.toNat [])) fun (m1 : ByteArray) => (b3 (image_Parse.f K m1) fun (c4 : List (List S59)) (p6 : Int) (c3 : Int) => (lt (fun (g5 : List Int) (j2 : Int) (f9 : Bool) => (if f9 = true then (some false) else (i9 a8 a9))) fun e9 => (if e3 = true then (b1 (confidantref5_Same.f K (a0.getD a1.toNat []) c0) fun (d5 : Bool) => (if d5 = true then (b3 (pack_Reader_Left.f K d3 e2) fun (e4 : List Int) (e6 : Int) (d0 : Int) => (if d0 = (l20.length : Int) then (if c3 = 0 then (b1 (confidantref5_Same.f K (a0.getD a1.toNat []) c4) fun (f3 : Bool) => (e9 e4 e6 (!(f3)))) else (e9 e4 e6 true)) else (e9 e4 e6 true))) else (e9 d3 e2 true))) else (e9 d3 e2 true)))))))) else none)) else none) else (i9 a8 a9)))) fun f5 => (if e0 = b8 then (if ((bStr a9).toList == (bStr a8).toList) = true then (b1 (image_Text.f K (a0.getD a1.toNat [])) fun (d1 : ByteArray) => (b1 (confidantref5_ImageText.f K (a0.getD a1.toNat [])) fun (d2 : ByteArray) => (if (d1.toList == d2.toList) = true then (b1 (image_Same.f K (a0.getD a1.toNat []) a4) fun (e5 : Bool) => (b1 (confidantref5_Same.f K (a0.getD a1.toNat []) a4) fun (f2 : Bool) => (f5 (!((e5 == f2)))))) else (f5 true)))) else (f5 true)) else (f5 true))))) else none)) else (some true)
def confidantlaw7_ImageTells.f (K : Nat) (l12 : List (List S59)) (l15 : List Int) (a18 : Int) (a19 : Int) (l20 : List Int) : Option Bool := b1 (confidantlaw7_known.f K) fun (g4 : Bool) => (if g4 = true then (lt (fun (f7 : Bool) => (if f7 = true then (some true) else (b1 (confidantseat_Code.f K l15 4 (IntKind.i64.wrap ((IntKind.i64.wrap (Int.tmod a18 4)) + 1)) (IntKind.i64.wrap (Int.tmod a19 3)) false) fun (a4 : List (List S59)) => (if (([] : List (List S59)).length + a4.length) * 24 ≤ 140737488355328 then (lt (([] : List (List S59)) ++ a4) fun f0 => (if (f0.length + l12.length) * 24 ≤ 140737488355328 then (lt (f0 ++ l12) fun c7 => (lt ([l12, a4, c7] : List (List (List S59))) fun a0 => (confidantlaw7_ImageTells.l0 K a0 l20 a4 K 0))) else none)) else none)))) fun g3 => (b1 (confidanthelp_SmallImage.f K l12) fun (f6 : Bool) => (if f6 = true then (if (l15.length : Int) > 60 then (g3 true) else (g3 (decide ((l20.length : Int) > 20)))) else (g3 true)))) else (some false))
set_option maxRecDepth 100000 in
theorem confidantlaw7_ImageTells.calls {K : Nat} {l12 : List (List S59)} {l15 : List Int} {a18 : Int} {a19 : Int} {l20 : List Int} {A13 : Option Addr} {C14 : Nat} {A16 : Option Addr} {C17 : Nat} {A21 : Option Addr} {C22 : Nat} {f4 : Bool} {B w : World} {os : List Ass} {rs : List Ro} (H : confidantlaw7_ImageTells.f K l12 l15 a18 a19 l20 = some f4) (hS : St B w (os) (Ro.sl (Kd.slice kS59) A13 C14 l12 :: Ro.sl (Kd.int .u8) A16 C17 l15 :: Ro.sl (Kd.int .u8) A21 C22 l20 :: rs)) (gB : Glob B) :
  Calls Tryz.prog 4 [sv A13 C14 l12, sv A16 C17 l15, ig a18, ig a19, sv A21 C22 l20].toArray w (fun en w' => ∃ v, en = .returned v ∧ v = .bool (f4) ∧ St B w' (os) (Ro.sl (Kd.slice kS59) A13 C14 l12 :: Ro.sl (Kd.int .u8) A16 C17 l15 :: Ro.sl (Kd.int .u8) A21 C22 l20 :: rs)) := by
 unfold confidantlaw7_ImageTells.f at H
 refine calls_of_EW (args := [sv A13 C14 l12, sv A16 C17 l15, ig a18, ig a19, sv A21 C22 l20]) (c := Cd4) 141 Tryz.func4 (by kernel_rfl) (by kernel_rfl) (by kernel_rfl) ?_
 refine EW.sq (by kernel_rfl) ?_
 refine EW.rg (by kernel_rfl) ?_
 refine EL.quick 1 [0, 1, 2, 3, 4] [(0, sv A13 C14 l12), (1, sv A16 C17 l15), (2, ig a18), (3, ig a19), (4, sv A21 C22 l20)] (by kernel_rfl) ?_
 refine EL.done (by kernel_rfl) ?_
 refine EQ.code ?_
 refine EW.sq (by kernel_rfl) ?_
 refine EW.sq (by kernel_rfl) ?_
 refine EW.rg (by kernel_rfl) ?_
 obtain ⟨g4, n2, H⟩ := b1_out H
 have hq := confidantlaw7_known.calls n2 hS gB
 refine EL.of (EO.callD 6 [] _ 24 (by kernel_rfl) (by kernel_rfl) (by kernel_rfl) hq ?_)
 rintro v w ⟨rfl, hS⟩
 refine EL.quick 1 [0, 1, 2, 3, 4, 25] [(0, sv A13 C14 l12), (1, sv A16 C17 l15), (2, ig a18), (3, ig a19), (4, sv A21 C22 l20), (25, .bool (!(g4)))] (by kernel_rfl) ?_
 refine EL.done (by kernel_rfl) ?_
 refine EQ.code ?_
 refine EW.cdQ (b := !(g4)) (g4 = true) (false) (by kernel_rfl) (by kernel_rfl) ⟨fun h => (by rw [h] <;> rfl), fun h => (by rw [Bool.eq_false_iff.2 h] <;> rfl)⟩ (fun j5 => ?_) (fun j5 => ?_)
 ·rw [if_pos j5] at H
  refine EW.skip (by kernel_rfl) ?_
  refine EQ.code ?_
  refine EW.sq (by kernel_rfl) ?_
  obtain ⟨g3, o8, H⟩ := lt_out H
  refine EW.ct (fun a w => ∃ f7 : Bool, Sat 141 [(0, sv A13 C14 l12), (1, sv A16 C17 l15), (2, ig a18), (3, ig a19), (4, sv A21 C22 l20), (38, .bool (f7))] a ∧ St B w (os) (Ro.sl (Kd.slice kS59) A13 C14 l12 :: Ro.sl (Kd.int .u8) A16 C17 l15 :: Ro.sl (Kd.int .u8) A21 C22 l20 :: rs) ∧ g3 f7 = some f4) (by kernel_rfl) ?_ (fun a w hI => ?_)
  ·refine EW.rg (by kernel_rfl) ?_
   refine EL.quick 1 [0, 1, 2, 3, 4, 26] [(0, sv A13 C14 l12), (1, sv A16 C17 l15), (2, ig a18), (3, ig a19), (4, sv A21 C22 l20), (26, sv A13 C14 l12)] (by kernel_rfl) ?_
   have hS : St B _ (os) (Ro.sl (Kd.slice kS59) A13 C14 l12 :: Ro.sl (Kd.int .u8) A16 C17 l15 :: Ro.sl (Kd.int .u8) A21 C22 l20 :: rs) := hS.re [] [] rfl (sub_cons 0 rfl (sub_tail (sub_self)))
   obtain ⟨f6, n3, H⟩ := b1_out H
   have hq := confidanthelp_SmallImage.calls n3 hS
   refine EL.of (EO.callD 10 [sv A13 C14 l12] _ 27 (by kernel_rfl) (by kernel_rfl) (by kernel_rfl) hq ?_)
   rintro v w ⟨rfl, hS⟩
   refine EL.quick 2 [0, 1, 2, 3, 4, 29] [(0, sv A13 C14 l12), (1, sv A16 C17 l15), (2, ig a18), (3, ig a19), (4, sv A21 C22 l20), (29, .bool (!(f6)))] (by kernel_rfl) ?_
   by_cases i0 : f6 = true
   ·rw [if_pos i0] at H
    refine EL.keep [0, 1, 2, 3, 4, 29] [(0, sv A13 C14 l12), (1, sv A16 C17 l15), (2, ig a18), (3, ig a19), (4, sv A21 C22 l20), (29, .bool (!(f6)))] (by kernel_rfl) ?_
    refine EL.as' [(0, sv A13 C14 l12), (1, sv A16 C17 l15), (2, ig a18), (3, ig a19), (4, sv A21 C22 l20), (29, .bool (false))] (by simp only [sv, i0, Bool.not_true, Bool.not_false]) ?_
    refine EL.quick 5 [0, 1, 2, 3, 4, 34] [(0, sv A13 C14 l12), (1, sv A16 C17 l15), (2, ig a18), (3, ig a19), (4, sv A21 C22 l20), (34, .bool (decide ((l15.length : Int) > 60)))] (by kernel_rfl) ?_
    by_cases i1 : (l15.length : Int) > 60
    ·rw [if_pos i1] at H
     refine EL.keep [0, 1, 2, 3, 4, 34] [(0, sv A13 C14 l12), (1, sv A16 C17 l15), (2, ig a18), (3, ig a19), (4, sv A21 C22 l20), (34, .bool (decide ((l15.length : Int) > 60)))] (by kernel_rfl) ?_
     refine EL.as' [(0, sv A13 C14 l12), (1, sv A16 C17 l15), (2, ig a18), (3, ig a19), (4, sv A21 C22 l20), (34, .bool (true))] (by simp only [sv, dec_t i1, Bool.not_true, Bool.not_false]) ?_
     refine EL.quick 4 [0, 1, 2, 3, 4, 38] [(0, sv A13 C14 l12), (1, sv A16 C17 l15), (2, ig a18), (3, ig a19), (4, sv A21 C22 l20), (38, .bool (true))] (by kernel_rfl) ?_
     refine EL.done (by kernel_rfl) ?_
     refine EQ.to ?_
     refine EQ.keep [0, 1, 2, 3, 4, 38] [(0, sv A13 C14 l12), (1, sv A16 C17 l15), (2, ig a18), (3, ig a19), (4, sv A21 C22 l20), (38, .bool (true))] (by kernel_rfl) ?_
     exact fun a ha => ⟨true, ha, (hS.re [] [] rfl (sub_cons 0 rfl (sub_cons 1 rfl (sub_cons 2 rfl (sub_tail (sub_tail (sub_tail (sub_self)))))))), H⟩
    rw [if_neg i1] at H
    refine EL.keep [0, 1, 2, 3, 4, 34] [(0, sv A13 C14 l12), (1, sv A16 C17 l15), (2, ig a18), (3, ig a19), (4, sv A21 C22 l20), (34, .bool (decide ((l15.length : Int) > 60)))] (by kernel_rfl) ?_
    refine EL.as' [(0, sv A13 C14 l12), (1, sv A16 C17 l15), (2, ig a18), (3, ig a19), (4, sv A21 C22 l20), (34, .bool (false))] (by simp only [sv, dec_f i1, Bool.not_true, Bool.not_false]) ?_
    refine EL.quick 4 [0, 1, 2, 3, 4, 38] [(0, sv A13 C14 l12), (1, sv A16 C17 l15), (2, ig a18), (3, ig a19), (4, sv A21 C22 l20), (38, .bool (decide ((l20.length : Int) > 20)))] (by kernel_rfl) ?_
    refine EL.done (by kernel_rfl) ?_
    refine EQ.to ?_
    refine EQ.keep [0, 1, 2, 3, 4, 38] [(0, sv A13 C14 l12), (1, sv A16 C17 l15), (2, ig a18), (3, ig a19), (4, sv A21 C22 l20), (38, .bool (decide ((l20.length : Int) > 20)))] (by kernel_rfl) ?_
    exact fun a ha => ⟨decide ((l20.length : Int) > 20), ha, (hS.re [] [] rfl (sub_cons 0 rfl (sub_cons 1 rfl (sub_cons 2 rfl (sub_tail (sub_tail (sub_tail (sub_self)))))))), H⟩
   rw [if_neg i0] at H
   refine EL.keep [0, 1, 2, 3, 4, 29] [(0, sv A13 C14 l12), (1, sv A16 C17 l15), (2, ig a18), (3, ig a19), (4, sv A21 C22 l20), (29, .bool (!(f6)))] (by kernel_rfl) ?_
   refine EL.as' [(0, sv A13 C14 l12), (1, sv A16 C17 l15), (2, ig a18), (3, ig a19), (4, sv A21 C22 l20), (29, .bool (true))] (by simp only [sv, (Bool.eq_false_iff.2 i0), Bool.not_true, Bool.not_false]) ?_
   refine EL.quick 9 [0, 1, 2, 3, 4, 38] [(0, sv A13 C14 l12), (1, sv A16 C17 l15), (2, ig a18), (3, ig a19), (4, sv A21 C22 l20), (38, .bool (true))] (by kernel_rfl) ?_
   refine EL.done (by kernel_rfl) ?_
   refine EQ.to ?_
   refine EQ.keep [0, 1, 2, 3, 4, 38] [(0, sv A13 C14 l12), (1, sv A16 C17 l15), (2, ig a18), (3, ig a19), (4, sv A21 C22 l20), (38, .bool (true))] (by kernel_rfl) ?_
   exact fun a ha => ⟨true, ha, (hS.re [] [] rfl (sub_cons 0 rfl (sub_cons 1 rfl (sub_cons 2 rfl (sub_tail (sub_tail (sub_tail (sub_self)))))))), H⟩
  obtain ⟨f7, ha, hS, H⟩ := hI
  rw [o8] at H
  (try dsimp only at H)
  refine EW.at ?_ a ha
  clear ha a
  refine EW.cdP' (f7) (by kernel_rfl) (by kernel_rfl) (fun j6 => ?_) (fun j6 => ?_)
  ·rw [if_pos j6] at H
   refine EW.sq (by kernel_rfl) ?_
   refine EW.rg (by kernel_rfl) ?_
   refine EL.quick 1 [10] [(10, .bool (true))] (by kernel_rfl) ?_
   refine EL.done (by kernel_rfl) ?_
   refine EQ.code ?_
   refine EW.ret (by kernel_rfl) ?_
   refine EQ.ret ?_
   obtain rfl := Option.some.inj H
   exact EQ.leave (.bool (true)) (by kernel_rfl) ⟨_, rfl, rfl, (hS.re [] [] rfl (sub_self))⟩
  rw [if_neg j6] at H
  refine EW.skip (by kernel_rfl) ?_
  refine EQ.code ?_
  refine EW.sq (by kernel_rfl) ?_
  refine EW.rg (by kernel_rfl) ?_
  refine EL.quick 8 [0, 4, 39, 43, 46] [(0, sv A13 C14 l12), (4, sv A21 C22 l20), (39, sv A16 C17 l15), (43, ia (IntKind.i64.wrap ((IntKind.i64.wrap (Int.tmod a18 4)) + 1))), (46, ia (IntKind.i64.wrap (Int.tmod a19 3)))] (by kernel_rfl) ?_
  have hS : St B _ (os) (Ro.sl (Kd.int .u8) A16 C17 l15 :: Ro.sl (Kd.slice kS59) A13 C14 l12 :: Ro.sl (Kd.int .u8) A21 C22 l20 :: rs) := hS.re [] [] rfl (sub_cons 1 rfl (sub_cons 0 rfl (sub_tail (sub_tail (sub_self)))))
  obtain ⟨a4, n4, H⟩ := b1_out H
  have hq := confidantseat_Code.calls n4 hS
  refine EL.of (EO.callD 8 [sv A16 C17 l15, ia 4, ia (IntKind.i64.wrap ((IntKind.i64.wrap (Int.tmod a18 4)) + 1)), ia (IntKind.i64.wrap (Int.tmod a19 3)), .bool (false)] _ 47 (by kernel_rfl) (by kernel_rfl) (by kernel_rfl) hq ?_)
  rintro v w ⟨a5, a6, rfl, hS⟩
  refine EL.quick 1 [0, 4, 11] [(0, sv A13 C14 l12), (4, sv A21 C22 l20), (11, sv a5 a6 a4)] (by kernel_rfl) ?_
  refine EL.done (by kernel_rfl) ?_
  refine EQ.code ?_
  refine EW.sq (by kernel_rfl) ?_
  refine EW.sq (by kernel_rfl) ?_
  refine EW.rg (by kernel_rfl) ?_
  refine EL.quick 3 [0, 4, 11, 48, 49, 50] [(0, sv A13 C14 l12), (4, sv A21 C22 l20), (11, sv a5 a6 a4), (48, sv A13 C14 l12), (49, sv a5 a6 a4), (50, sv a5 a6 a4)] (by kernel_rfl) ?_
  have hS := St.frDeep hS 0 rfl
  have hS := St.nilO hS 56 (Kd.slice kS59)
  obtain ⟨m8, H⟩ := ite_in H
  obtain ⟨f0, p2, H⟩ := lt_out H
  refine EL.of (EO.append hS 26 26 56 24 0 (Kd.slice kS59) none 0 ([] : List (List S59)) rfl a5 a6 a4 (Rd.ro 0 rfl) f0 p2 (fun g6 g8 => Ass.own 56 (Kd.slice kS59) g6 g8 f0 :: os) 51 (by kernel_rfl) (by kernel_rfl) (by kernel_rfl) (by kernel_rfl) m8 (fun _ _ => rfl) ?_)
  intro g6 g8 w hS
  refine EL.quick 1 [4, 11, 48, 49, 51, 52] [(4, sv A21 C22 l20), (11, sv a5 a6 a4), (48, sv A13 C14 l12), (49, sv a5 a6 a4), (51, sv g6 g8 f0), (52, sv A13 C14 l12)] (by kernel_rfl) ?_
  obtain ⟨m9, H⟩ := ite_in H
  obtain ⟨c7, p3, H⟩ := lt_out H
  refine EL.of (EO.append hS 26 26 56 24 0 (Kd.slice kS59) g6 g8 f0 rfl A13 C14 l12 (Rd.ro 2 rfl) c7 p3 (fun c8 c9 => Ass.own 56 (Kd.slice kS59) c8 c9 c7 :: os) 53 (by kernel_rfl) (by kernel_rfl) (by kernel_rfl) (by kernel_rfl) m9 (fun _ _ => rfl) ?_)
  intro c8 c9 w hS
  have hS := St.fr hS 0 rfl
  obtain ⟨a0, m7, H⟩ := lt_out H
  refine EL.of (EO.lit hS (Kd.slice (Kd.slice kS59)) 26 34 3 #[(0, sv A13 C14 l12), (1, sv a5 a6 a4), (2, sv c8 c9 c7)] [sv A13 C14 l12, sv a5 a6 a4, sv c8 c9 c7] a0 54 (by kernel_rfl) (by kernel_rfl) (by kernel_rfl) (fun _ => (by kernel_rfl)) (by rw [m7]; rfl) (by kernel_rfl) (fun w G hr => (by rw [m7]; exact ⟨[sv A13 C14 l12], [sv a5 a6 a4, sv c8 c9 c7], rfl, (hr _ (List.mem_of_getElem? (i := 3) rfl)), ⟨[sv a5 a6 a4], [sv c8 c9 c7], rfl, (hr _ (List.mem_of_getElem? (i := 1) rfl)), ⟨[sv c8 c9 c7], [], rfl, (hr _ (List.mem_of_getElem? (i := 0) rfl)), rfl⟩⟩⟩)) ?_)
  intro a7 w hS
  refine EL.quick 2 [4, 11, 54, 55, 56] [(4, sv A21 C22 l20), (11, sv a5 a6 a4), (54, sv (some ⟨a7, 0, none⟩) 3 a0), (55, ia (a0.length : Int)), (56, ia 0)] (by kernel_rfl) ?_
  refine EL.done (by kernel_rfl) ?_
  refine EQ.code ?_
  refine EW.bl 0 (by kernel_rfl) ?_
  refine EW.lp (fun n a w => ∃ a1 : Int, Sat 141 [(4, sv A21 C22 l20), (11, sv a5 a6 a4), (54, sv (some ⟨a7, 0, none⟩) 3 a0), (55, ia (a0.length : Int)), (56, ia a1)] a ∧ St B w (Ass.own 26 (Kd.slice (Kd.slice kS59)) (some ⟨a7, 0, none⟩) 3 a0 :: os) (Ro.sl (Kd.slice kS59) c8 c9 c7 :: Ro.sl (Kd.slice kS59) a5 a6 a4 :: Ro.sl (Kd.int .u8) A16 C17 l15 :: Ro.sl (Kd.slice kS59) A13 C14 l12 :: Ro.sl (Kd.int .u8) A21 C22 l20 :: rs) ∧ confidantlaw7_ImageTells.l0 K a0 l20 a4 n a1 = some f4) K (by kernel_rfl) ?_ (fun n a w hI => ?_)
  ·refine EQ.keep [4, 11, 54, 55, 56] [(4, sv A21 C22 l20), (11, sv a5 a6 a4), (54, sv (some ⟨a7, 0, none⟩) 3 a0), (55, ia (a0.length : Int)), (56, ia 0)] (by kernel_rfl) ?_
   exact fun a ha => ⟨0, ha, (hS.re [0] [] rfl (sub_cons 0 rfl (sub_cons 1 rfl (sub_cons 2 rfl (sub_cons 3 rfl (sub_cons 4 rfl (sub_tail (sub_tail (sub_tail (sub_tail (sub_tail (sub_self)))))))))))), H⟩
  obtain ⟨a1, ha, hS, H⟩ := hI
  obtain _ | n := n
  ·simp [confidantlaw7_ImageTells.l0] at H
  rw [confidantlaw7_ImageTells.l0.eq_2] at H
  refine EW.at ?_ a ha
  clear ha a
  refine EW.sq (by kernel_rfl) ?_
  refine EW.rg (by kernel_rfl) ?_
  refine EL.quick 1 [4, 11, 54, 55, 56, 57] [(4, sv A21 C22 l20), (11, sv a5 a6 a4), (54, sv (some ⟨a7, 0, none⟩) 3 a0), (55, ia (a0.length : Int)), (56, ia a1), (57, .bool (decide (a1 < (a0.length : Int))))] (by kernel_rfl) ?_
  refine EL.done (by kernel_rfl) ?_
  refine EQ.code ?_
  refine EW.sq (by kernel_rfl) ?_
  refine EW.cdP (a1 < (a0.length : Int)) (by kernel_rfl) (by kernel_rfl) (fun g2 => ?_) (fun g2 => ?_)
  ·rw [if_pos g2] at H
   refine EW.skip (by kernel_rfl) ?_
   refine EQ.code ?_
   obtain ⟨i9, o9, H⟩ := lt_out H
   refine EW.ct (fun a w => ∃ j0 : List Int, ∃ j1 : List Int, ∃ m2 : Option Addr, ∃ m4 : Nat, ∃ m3 : Option Addr, ∃ m5 : Nat, Sat 141 [(4, sv A21 C22 l20), (11, sv a5 a6 a4), (54, sv (some ⟨a7, 0, none⟩) 3 a0), (55, ia (a0.length : Int)), (56, ia a1)] a ∧ St B w (Ass.own 5 (Kd.int .u8) m2 m4 j0 :: Ass.own 5 (Kd.int .u8) m3 m5 j1 :: Ass.own 26 (Kd.slice (Kd.slice kS59)) (some ⟨a7, 0, none⟩) 3 a0 :: os) (Ro.sl (Kd.slice kS59) a5 a6 a4 :: Ro.sl (Kd.slice kS59) c8 c9 c7 :: Ro.sl (Kd.int .u8) A16 C17 l15 :: Ro.sl (Kd.slice kS59) A13 C14 l12 :: Ro.sl (Kd.int .u8) A21 C22 l20 :: rs) ∧ i9 j0 j1 = some f4) (by kernel_rfl) ?_ (fun a w hI => ?_)
   ·refine EW.bl 1 (by kernel_rfl) ?_
    refine EW.sq (by kernel_rfl) ?_
    refine EW.rg (by kernel_rfl) ?_
    obtain ⟨m6, H⟩ := ite_in H
    refine EL.of (EO.Y (YO.idx 34 1 ⟨a7, 0, none⟩ a0.length 3 .i64 a1 58 (by kernel_rfl) (by kernel_rfl) (by kernel_rfl) (by kernel_rfl) m6 g2) ?_)
    refine EL.of (EO.loadSl hS (Kd.slice kS59) ⟨a7, 0, none⟩ 3 a0 (Rd.own 0 26 rfl) a1 m6 g2 26 59 (by kernel_rfl) (by kernel_rfl) (by kernel_rfl) (by kernel_rfl) ?_)
    intro a2 a3 hS
    refine EL.quick 1 [4, 11, 13, 54, 55, 56] [(4, sv A21 C22 l20), (11, sv a5 a6 a4), (13, sv a2 a3 (a0.getD a1.toNat [])), (54, sv (some ⟨a7, 0, none⟩) 3 a0), (55, ia (a0.length : Int)), (56, ia a1)] (by kernel_rfl) ?_
    refine EL.done (by kernel_rfl) ?_
    refine EQ.code ?_
    refine EW.sq (by kernel_rfl) ?_
    refine EW.rg (by kernel_rfl) ?_
    refine EL.quick 1 [4, 11, 13, 54, 55, 56, 61] [(4, sv A21 C22 l20), (11, sv a5 a6 a4), (13, sv a2 a3 (a0.getD a1.toNat [])), (54, sv (some ⟨a7, 0, none⟩) 3 a0), (55, ia (a0.length : Int)), (56, ia a1), (61, sv a2 a3 (a0.getD a1.toNat []))] (by kernel_rfl) ?_
    have hS : St B _ (Ass.own 26 (Kd.slice (Kd.slice kS59)) (some ⟨a7, 0, none⟩) 3 a0 :: os) (Ro.sl (Kd.slice kS59) a2 a3 (a0.getD a1.toNat []) :: Ro.sl (Kd.slice kS59) c8 c9 c7 :: Ro.sl (Kd.slice kS59) a5 a6 a4 :: Ro.sl (Kd.int .u8) A16 C17 l15 :: Ro.sl (Kd.slice kS59) A13 C14 l12 :: Ro.sl (Kd.int .u8) A21 C22 l20 :: rs) := hS.re [] [] rfl (sub_cons 0 rfl (sub_tail (sub_self)))
    obtain ⟨a9, e0, n5, H⟩ := b2_out H
    have hq := image_Put.calls n5 hS
    refine EL.of (EO.callD 11 [sv a2 a3 (a0.getD a1.toNat [])] _ 62 (by kernel_rfl) (by kernel_rfl) (by kernel_rfl) hq ?_)
    rintro v w ⟨b6, b7, rfl, hS⟩
    refine EL.quick 5 [4, 11, 13, 14, 15, 54, 55, 56] [(4, sv A21 C22 l20), (11, sv a5 a6 a4), (13, sv a2 a3 (a0.getD a1.toNat [])), (14, sv b6 b7 a9), (15, ia e0), (54, sv (some ⟨a7, 0, none⟩) 3 a0), (55, ia (a0.length : Int)), (56, ia a1)] (by kernel_rfl) ?_
    refine EL.done (by kernel_rfl) ?_
    refine EQ.code ?_
    refine EW.sq (by kernel_rfl) ?_
    refine EW.rg (by kernel_rfl) ?_
    refine EL.quick 1 [4, 11, 13, 14, 15, 54, 55, 56, 66] [(4, sv A21 C22 l20), (11, sv a5 a6 a4), (13, sv a2 a3 (a0.getD a1.toNat [])), (14, sv b6 b7 a9), (15, ia e0), (54, sv (some ⟨a7, 0, none⟩) 3 a0), (55, ia (a0.length : Int)), (56, ia a1), (66, sv a2 a3 (a0.getD a1.toNat []))] (by kernel_rfl) ?_
    have hS : St B _ (Ass.own 5 (Kd.int .u8) b6 b7 a9 :: Ass.own 26 (Kd.slice (Kd.slice kS59)) (some ⟨a7, 0, none⟩) 3 a0 :: os) (Ro.sl (Kd.slice kS59) a2 a3 (a0.getD a1.toNat []) :: Ro.sl (Kd.slice kS59) c8 c9 c7 :: Ro.sl (Kd.slice kS59) a5 a6 a4 :: Ro.sl (Kd.int .u8) A16 C17 l15 :: Ro.sl (Kd.slice kS59) A13 C14 l12 :: Ro.sl (Kd.int .u8) A21 C22 l20 :: rs) := hS.re [] [] rfl (sub_cons 0 rfl (sub_tail (sub_self)))
    obtain ⟨a8, b8, n6, H⟩ := b2_out H
    have hq := confidantref5_ImagePut.calls n6 hS
    refine EL.of (EO.callD 12 [sv a2 a3 (a0.getD a1.toNat [])] _ 67 (by kernel_rfl) (by kernel_rfl) (by kernel_rfl) hq ?_)
    rintro v w ⟨b0, b5, rfl, hS⟩
    refine EL.quick 5 [4, 11, 13, 14, 15, 16, 17, 54, 55, 56] [(4, sv A21 C22 l20), (11, sv a5 a6 a4), (13, sv a2 a3 (a0.getD a1.toNat [])), (14, sv b6 b7 a9), (15, ia e0), (16, sv b0 b5 a8), (17, ia b8), (54, sv (some ⟨a7, 0, none⟩) 3 a0), (55, ia (a0.length : Int)), (56, ia a1)] (by kernel_rfl) ?_
    refine EL.done (by kernel_rfl) ?_
    refine EQ.code ?_
    refine EW.sq (by kernel_rfl) ?_
    obtain ⟨f5, p0, H⟩ := lt_out H
    refine EW.ct (fun a w => ∃ f8 : Bool, Sat 141 [(4, sv A21 C22 l20), (11, sv a5 a6 a4), (13, sv a2 a3 (a0.getD a1.toNat [])), (16, sv b0 b5 a8), (17, ia b8), (54, sv (some ⟨a7, 0, none⟩) 3 a0), (55, ia (a0.length : Int)), (56, ia a1), (95, .bool (f8))] a ∧ St B w (Ass.own 5 (Kd.int .u8) b0 b5 a8 :: Ass.own 5 (Kd.int .u8) b6 b7 a9 :: Ass.own 26 (Kd.slice (Kd.slice kS59)) (some ⟨a7, 0, none⟩) 3 a0 :: os) (Ro.sl (Kd.slice kS59) a2 a3 (a0.getD a1.toNat []) :: Ro.sl (Kd.slice kS59) a5 a6 a4 :: Ro.sl (Kd.slice kS59) c8 c9 c7 :: Ro.sl (Kd.int .u8) A16 C17 l15 :: Ro.sl (Kd.slice kS59) A13 C14 l12 :: Ro.sl (Kd.int .u8) A21 C22 l20 :: rs) ∧ f5 f8 = some f4) (by kernel_rfl) ?_ (fun a w hI => ?_)
    ·refine EW.rg (by kernel_rfl) ?_
     refine EL.quick 4 [4, 11, 13, 14, 16, 17, 54, 55, 56, 73] [(4, sv A21 C22 l20), (11, sv a5 a6 a4), (13, sv a2 a3 (a0.getD a1.toNat [])), (14, sv b6 b7 a9), (16, sv b0 b5 a8), (17, ia b8), (54, sv (some ⟨a7, 0, none⟩) 3 a0), (55, ia (a0.length : Int)), (56, ia a1), (73, .bool (!(decide (e0 = b8))))] (by kernel_rfl) ?_
     by_cases i2 : e0 = b8
     ·rw [if_pos i2] at H
      refine EL.keep [4, 11, 13, 14, 16, 17, 54, 55, 56, 73] [(4, sv A21 C22 l20), (11, sv a5 a6 a4), (13, sv a2 a3 (a0.getD a1.toNat [])), (14, sv b6 b7 a9), (16, sv b0 b5 a8), (17, ia b8), (54, sv (some ⟨a7, 0, none⟩) 3 a0), (55, ia (a0.length : Int)), (56, ia a1), (73, .bool (!(decide (e0 = b8))))] (by kernel_rfl) ?_
      refine EL.as' [(4, sv A21 C22 l20), (11, sv a5 a6 a4), (13, sv a2 a3 (a0.getD a1.toNat [])), (14, sv b6 b7 a9), (16, sv b0 b5 a8), (17, ia b8), (54, sv (some ⟨a7, 0, none⟩) 3 a0), (55, ia (a0.length : Int)), (56, ia a1), (73, .bool (false))] (by simp only [sv, dec_t i2, Bool.not_true, Bool.not_false]) ?_
      refine EL.quick 1 [4, 11, 13, 16, 17, 54, 55, 56, 73, 74] [(4, sv A21 C22 l20), (11, sv a5 a6 a4), (13, sv a2 a3 (a0.getD a1.toNat [])), (16, sv b0 b5 a8), (17, ia b8), (54, sv (some ⟨a7, 0, none⟩) 3 a0), (55, ia (a0.length : Int)), (56, ia a1), (73, .bool (false)), (74, sv b6 b7 a9)] (by kernel_rfl) ?_
      refine EL.of (EO.Y (YO.bstr hS b6 b7 a9 (Rd.own 1 5 rfl) 22 9 5 75 (by kernel_rfl) (by kernel_rfl) (by kernel_rfl) (by kernel_rfl) (by kernel_rfl) (by kernel_rfl)) ?_)
      refine EL.quick 1 [4, 11, 13, 16, 17, 54, 55, 56, 73, 74, 75, 76] [(4, sv A21 C22 l20), (11, sv a5 a6 a4), (13, sv a2 a3 (a0.getD a1.toNat [])), (16, sv b0 b5 a8), (17, ia b8), (54, sv (some ⟨a7, 0, none⟩) 3 a0), (55, ia (a0.length : Int)), (56, ia a1), (73, .bool (false)), (74, sv b6 b7 a9), (75, .string (bStr a9)), (76, sv b0 b5 a8)] (by kernel_rfl) ?_
      refine EL.of (EO.Y (YO.bstr hS b0 b5 a8 (Rd.own 0 5 rfl) 22 9 5 77 (by kernel_rfl) (by kernel_rfl) (by kernel_rfl) (by kernel_rfl) (by kernel_rfl) (by kernel_rfl)) ?_)
      refine EL.quick 3 [4, 11, 13, 16, 17, 54, 55, 56, 74, 75, 76, 77, 78, 80] [(4, sv A21 C22 l20), (11, sv a5 a6 a4), (13, sv a2 a3 (a0.getD a1.toNat [])), (16, sv b0 b5 a8), (17, ia b8), (54, sv (some ⟨a7, 0, none⟩) 3 a0), (55, ia (a0.length : Int)), (56, ia a1), (74, sv b6 b7 a9), (75, .string (bStr a9)), (76, sv b0 b5 a8), (77, .string (bStr a8)), (78, .bool (!(((bStr a9).toList == (bStr a8).toList)))), (80, .bool (!(((bStr a9).toList == (bStr a8).toList))))] (by kernel_rfl) ?_
      by_cases i3 : ((bStr a9).toList == (bStr a8).toList) = true
      ·rw [if_pos i3] at H
       refine EL.keep [4, 11, 13, 16, 17, 54, 55, 56, 74, 75, 76, 77, 78, 80] [(4, sv A21 C22 l20), (11, sv a5 a6 a4), (13, sv a2 a3 (a0.getD a1.toNat [])), (16, sv b0 b5 a8), (17, ia b8), (54, sv (some ⟨a7, 0, none⟩) 3 a0), (55, ia (a0.length : Int)), (56, ia a1), (74, sv b6 b7 a9), (75, .string (bStr a9)), (76, sv b0 b5 a8), (77, .string (bStr a8)), (78, .bool (!(((bStr a9).toList == (bStr a8).toList)))), (80, .bool (!(((bStr a9).toList == (bStr a8).toList))))] (by kernel_rfl) ?_
       refine EL.as' [(4, sv A21 C22 l20), (11, sv a5 a6 a4), (13, sv a2 a3 (a0.getD a1.toNat [])), (16, sv b0 b5 a8), (17, ia b8), (54, sv (some ⟨a7, 0, none⟩) 3 a0), (55, ia (a0.length : Int)), (56, ia a1), (74, sv b6 b7 a9), (75, .string (bStr a9)), (76, sv b0 b5 a8), (77, .string (bStr a8)), (78, .bool (false)), (80, .bool (false))] (by simp only [sv, i3, Bool.not_true, Bool.not_false]) ?_
       refine EL.quick 1 [4, 11, 13, 16, 17, 54, 55, 56, 74, 75, 76, 77, 78, 80, 81] [(4, sv A21 C22 l20), (11, sv a5 a6 a4), (13, sv a2 a3 (a0.getD a1.toNat [])), (16, sv b0 b5 a8), (17, ia b8), (54, sv (some ⟨a7, 0, none⟩) 3 a0), (55, ia (a0.length : Int)), (56, ia a1), (74, sv b6 b7 a9), (75, .string (bStr a9)), (76, sv b0 b5 a8), (77, .string (bStr a8)), (78, .bool (false)), (80, .bool (false)), (81, sv a2 a3 (a0.getD a1.toNat []))] (by kernel_rfl) ?_
       have hS : St B _ (Ass.own 5 (Kd.int .u8) b0 b5 a8 :: Ass.own 5 (Kd.int .u8) b6 b7 a9 :: Ass.own 26 (Kd.slice (Kd.slice kS59)) (some ⟨a7, 0, none⟩) 3 a0 :: os) (Ro.sl (Kd.slice kS59) a2 a3 (a0.getD a1.toNat []) :: Ro.sl (Kd.slice kS59) c8 c9 c7 :: Ro.sl (Kd.slice kS59) a5 a6 a4 :: Ro.sl (Kd.int .u8) A16 C17 l15 :: Ro.sl (Kd.slice kS59) A13 C14 l12 :: Ro.sl (Kd.int .u8) A21 C22 l20 :: rs) := hS.re [] [] rfl (sub_cons 0 rfl (sub_tail (sub_self)))
       obtain ⟨d1, n7, H⟩ := b1_out H
       have hq := image_Text.calls n7 hS gB
       refine EL.of (EO.callD 13 [sv a2 a3 (a0.getD a1.toNat [])] _ 82 (by kernel_rfl) (by kernel_rfl) (by kernel_rfl) hq ?_)
       rintro v w ⟨rfl, hS⟩
       refine EL.quick 1 [4, 11, 13, 16, 17, 54, 55, 56, 74, 75, 76, 77, 78, 80, 81, 82, 83] [(4, sv A21 C22 l20), (11, sv a5 a6 a4), (13, sv a2 a3 (a0.getD a1.toNat [])), (16, sv b0 b5 a8), (17, ia b8), (54, sv (some ⟨a7, 0, none⟩) 3 a0), (55, ia (a0.length : Int)), (56, ia a1), (74, sv b6 b7 a9), (75, .string (bStr a9)), (76, sv b0 b5 a8), (77, .string (bStr a8)), (78, .bool (false)), (80, .bool (false)), (81, sv a2 a3 (a0.getD a1.toNat [])), (82, .string d1), (83, sv a2 a3 (a0.getD a1.toNat []))] (by kernel_rfl) ?_
       have hS : St B _ (Ass.own 5 (Kd.int .u8) b0 b5 a8 :: Ass.own 5 (Kd.int .u8) b6 b7 a9 :: Ass.own 26 (Kd.slice (Kd.slice kS59)) (some ⟨a7, 0, none⟩) 3 a0 :: os) (Ro.sl (Kd.slice kS59) a2 a3 (a0.getD a1.toNat []) :: Ro.sl (Kd.slice kS59) c8 c9 c7 :: Ro.sl (Kd.slice kS59) a5 a6 a4 :: Ro.sl (Kd.int .u8) A16 C17 l15 :: Ro.sl (Kd.slice kS59) A13 C14 l12 :: Ro.sl (Kd.int .u8) A21 C22 l20 :: rs) := hS.re [] [] rfl (sub_cons 0 rfl (sub_tail (sub_self)))
       obtain ⟨d2, n8, H⟩ := b1_out H
       have hq := confidantref5_ImageText.calls n8 hS
       refine EL.of (EO.callD 7 [sv a2 a3 (a0.getD a1.toNat [])] _ 84 (by kernel_rfl) (by kernel_rfl) (by kernel_rfl) hq ?_)
       rintro v w ⟨rfl, hS⟩
       refine EL.quick 3 [4, 11, 13, 16, 17, 54, 55, 56, 74, 75, 76, 77, 78, 81, 82, 83, 84, 85, 87] [(4, sv A21 C22 l20), (11, sv a5 a6 a4), (13, sv a2 a3 (a0.getD a1.toNat [])), (16, sv b0 b5 a8), (17, ia b8), (54, sv (some ⟨a7, 0, none⟩) 3 a0), (55, ia (a0.length : Int)), (56, ia a1), (74, sv b6 b7 a9), (75, .string (bStr a9)), (76, sv b0 b5 a8), (77, .string (bStr a8)), (78, .bool (false)), (81, sv a2 a3 (a0.getD a1.toNat [])), (82, .string d1), (83, sv a2 a3 (a0.getD a1.toNat [])), (84, .string d2), (85, .bool (!((d1.toList == d2.toList)))), (87, .bool (!((d1.toList == d2.toList))))] (by kernel_rfl) ?_
       by_cases i4 : (d1.toList == d2.toList) = true
       ·rw [if_pos i4] at H
        refine EL.keep [4, 11, 13, 16, 17, 54, 55, 56, 74, 75, 76, 77, 78, 81, 82, 83, 84, 85, 87] [(4, sv A21 C22 l20), (11, sv a5 a6 a4), (13, sv a2 a3 (a0.getD a1.toNat [])), (16, sv b0 b5 a8), (17, ia b8), (54, sv (some ⟨a7, 0, none⟩) 3 a0), (55, ia (a0.length : Int)), (56, ia a1), (74, sv b6 b7 a9), (75, .string (bStr a9)), (76, sv b0 b5 a8), (77, .string (bStr a8)), (78, .bool (false)), (81, sv a2 a3 (a0.getD a1.toNat [])), (82, .string d1), (83, sv a2 a3 (a0.getD a1.toNat [])), (84, .string d2), (85, .bool (!((d1.toList == d2.toList)))), (87, .bool (!((d1.toList == d2.toList))))] (by kernel_rfl) ?_
        refine EL.as' [(4, sv A21 C22 l20), (11, sv a5 a6 a4), (13, sv a2 a3 (a0.getD a1.toNat [])), (16, sv b0 b5 a8), (17, ia b8), (54, sv (some ⟨a7, 0, none⟩) 3 a0), (55, ia (a0.length : Int)), (56, ia a1), (74, sv b6 b7 a9), (75, .string (bStr a9)), (76, sv b0 b5 a8), (77, .string (bStr a8)), (78, .bool (false)), (81, sv a2 a3 (a0.getD a1.toNat [])), (82, .string d1), (83, sv a2 a3 (a0.getD a1.toNat [])), (84, .string d2), (85, .bool (false)), (87, .bool (false))] (by simp only [sv, i4, Bool.not_true, Bool.not_false]) ?_
        refine EL.quick 2 [4, 11, 13, 16, 17, 54, 55, 56, 74, 75, 76, 77, 78, 81, 82, 83, 84, 85, 87, 88, 89] [(4, sv A21 C22 l20), (11, sv a5 a6 a4), (13, sv a2 a3 (a0.getD a1.toNat [])), (16, sv b0 b5 a8), (17, ia b8), (54, sv (some ⟨a7, 0, none⟩) 3 a0), (55, ia (a0.length : Int)), (56, ia a1), (74, sv b6 b7 a9), (75, .string (bStr a9)), (76, sv b0 b5 a8), (77, .string (bStr a8)), (78, .bool (false)), (81, sv a2 a3 (a0.getD a1.toNat [])), (82, .string d1), (83, sv a2 a3 (a0.getD a1.toNat [])), (84, .string d2), (85, .bool (false)), (87, .bool (false)), (88, sv a2 a3 (a0.getD a1.toNat [])), (89, sv a5 a6 a4)] (by kernel_rfl) ?_
        have hS : St B _ (Ass.own 5 (Kd.int .u8) b0 b5 a8 :: Ass.own 5 (Kd.int .u8) b6 b7 a9 :: Ass.own 26 (Kd.slice (Kd.slice kS59)) (some ⟨a7, 0, none⟩) 3 a0 :: os) (Ro.sl (Kd.slice kS59) a2 a3 (a0.getD a1.toNat []) :: Ro.sl (Kd.slice kS59) a5 a6 a4 :: Ro.sl (Kd.slice kS59) c8 c9 c7 :: Ro.sl (Kd.int .u8) A16 C17 l15 :: Ro.sl (Kd.slice kS59) A13 C14 l12 :: Ro.sl (Kd.int .u8) A21 C22 l20 :: rs) := hS.re [] [] rfl (sub_cons 0 rfl (sub_cons 2 rfl (sub_cons 1 rfl (sub_tail (sub_tail (sub_tail (sub_self)))))))
        obtain ⟨e5, n9, H⟩ := b1_out H
        have hq := image_Same.calls n9 hS
        refine EL.of (EO.callD 14 [sv a2 a3 (a0.getD a1.toNat []), sv a5 a6 a4] _ 90 (by kernel_rfl) (by kernel_rfl) (by kernel_rfl) hq ?_)
        rintro v w ⟨rfl, hS⟩
        refine EL.quick 2 [4, 11, 13, 16, 17, 54, 55, 56, 74, 75, 76, 77, 78, 81, 82, 83, 84, 85, 87, 88, 89, 90, 91, 92] [(4, sv A21 C22 l20), (11, sv a5 a6 a4), (13, sv a2 a3 (a0.getD a1.toNat [])), (16, sv b0 b5 a8), (17, ia b8), (54, sv (some ⟨a7, 0, none⟩) 3 a0), (55, ia (a0.length : Int)), (56, ia a1), (74, sv b6 b7 a9), (75, .string (bStr a9)), (76, sv b0 b5 a8), (77, .string (bStr a8)), (78, .bool (false)), (81, sv a2 a3 (a0.getD a1.toNat [])), (82, .string d1), (83, sv a2 a3 (a0.getD a1.toNat [])), (84, .string d2), (85, .bool (false)), (87, .bool (false)), (88, sv a2 a3 (a0.getD a1.toNat [])), (89, sv a5 a6 a4), (90, .bool (e5)), (91, sv a2 a3 (a0.getD a1.toNat [])), (92, sv a5 a6 a4)] (by kernel_rfl) ?_
        have hS : St B _ (Ass.own 5 (Kd.int .u8) b0 b5 a8 :: Ass.own 5 (Kd.int .u8) b6 b7 a9 :: Ass.own 26 (Kd.slice (Kd.slice kS59)) (some ⟨a7, 0, none⟩) 3 a0 :: os) (Ro.sl (Kd.slice kS59) a2 a3 (a0.getD a1.toNat []) :: Ro.sl (Kd.slice kS59) a5 a6 a4 :: Ro.sl (Kd.slice kS59) c8 c9 c7 :: Ro.sl (Kd.int .u8) A16 C17 l15 :: Ro.sl (Kd.slice kS59) A13 C14 l12 :: Ro.sl (Kd.int .u8) A21 C22 l20 :: rs) := hS.re [] [] rfl (sub_cons 0 rfl (sub_cons 1 rfl (sub_tail (sub_tail (sub_self)))))
        obtain ⟨f2, o0, H⟩ := b1_out H
        have hq := confidantref5_Same.calls o0 hS
        refine EL.of (EO.callD 15 [sv a2 a3 (a0.getD a1.toNat []), sv a5 a6 a4] _ 93 (by kernel_rfl) (by kernel_rfl) (by kernel_rfl) hq ?_)
        rintro v w ⟨rfl, hS⟩
        refine EL.quick 2 [4, 11, 13, 16, 17, 54, 55, 56, 74, 75, 76, 77, 78, 81, 82, 83, 84, 85, 88, 89, 90, 91, 92, 93, 94, 95] [(4, sv A21 C22 l20), (11, sv a5 a6 a4), (13, sv a2 a3 (a0.getD a1.toNat [])), (16, sv b0 b5 a8), (17, ia b8), (54, sv (some ⟨a7, 0, none⟩) 3 a0), (55, ia (a0.length : Int)), (56, ia a1), (74, sv b6 b7 a9), (75, .string (bStr a9)), (76, sv b0 b5 a8), (77, .string (bStr a8)), (78, .bool (false)), (81, sv a2 a3 (a0.getD a1.toNat [])), (82, .string d1), (83, sv a2 a3 (a0.getD a1.toNat [])), (84, .string d2), (85, .bool (false)), (88, sv a2 a3 (a0.getD a1.toNat [])), (89, sv a5 a6 a4), (90, .bool (e5)), (91, sv a2 a3 (a0.getD a1.toNat [])), (92, sv a5 a6 a4), (93, .bool (f2)), (94, .bool (!((e5 == f2)))), (95, .bool (!((e5 == f2))))] (by kernel_rfl) ?_
        refine EL.done (by kernel_rfl) ?_
        refine EQ.to ?_
        refine EQ.keep [4, 11, 13, 16, 17, 54, 55, 56, 95] [(4, sv A21 C22 l20), (11, sv a5 a6 a4), (13, sv a2 a3 (a0.getD a1.toNat [])), (16, sv b0 b5 a8), (17, ia b8), (54, sv (some ⟨a7, 0, none⟩) 3 a0), (55, ia (a0.length : Int)), (56, ia a1), (95, .bool (!((e5 == f2))))] (by kernel_rfl) ?_
        exact fun a ha => ⟨!((e5 == f2)), ha, (hS.re [2, 2, 2] [] rfl (sub_cons 0 rfl (sub_cons 1 rfl (sub_cons 2 rfl (sub_cons 3 rfl (sub_cons 4 rfl (sub_cons 5 rfl (sub_tail (sub_tail (sub_tail (sub_tail (sub_tail (sub_tail (sub_self)))))))))))))), H⟩
       rw [if_neg i4] at H
       refine EL.keep [4, 11, 13, 16, 17, 54, 55, 56, 74, 75, 76, 77, 78, 81, 82, 83, 84, 85, 87] [(4, sv A21 C22 l20), (11, sv a5 a6 a4), (13, sv a2 a3 (a0.getD a1.toNat [])), (16, sv b0 b5 a8), (17, ia b8), (54, sv (some ⟨a7, 0, none⟩) 3 a0), (55, ia (a0.length : Int)), (56, ia a1), (74, sv b6 b7 a9), (75, .string (bStr a9)), (76, sv b0 b5 a8), (77, .string (bStr a8)), (78, .bool (false)), (81, sv a2 a3 (a0.getD a1.toNat [])), (82, .string d1), (83, sv a2 a3 (a0.getD a1.toNat [])), (84, .string d2), (85, .bool (!((d1.toList == d2.toList)))), (87, .bool (!((d1.toList == d2.toList))))] (by kernel_rfl) ?_
       refine EL.as' [(4, sv A21 C22 l20), (11, sv a5 a6 a4), (13, sv a2 a3 (a0.getD a1.toNat [])), (16, sv b0 b5 a8), (17, ia b8), (54, sv (some ⟨a7, 0, none⟩) 3 a0), (55, ia (a0.length : Int)), (56, ia a1), (74, sv b6 b7 a9), (75, .string (bStr a9)), (76, sv b0 b5 a8), (77, .string (bStr a8)), (78, .bool (false)), (81, sv a2 a3 (a0.getD a1.toNat [])), (82, .string d1), (83, sv a2 a3 (a0.getD a1.toNat [])), (84, .string d2), (85, .bool (true)), (87, .bool (true))] (by simp only [sv, (Bool.eq_false_iff.2 i4), Bool.not_true, Bool.not_false]) ?_
       refine EL.quick 8 [4, 11, 13, 16, 17, 54, 55, 56, 74, 75, 76, 77, 78, 81, 82, 83, 84, 85, 95] [(4, sv A21 C22 l20), (11, sv a5 a6 a4), (13, sv a2 a3 (a0.getD a1.toNat [])), (16, sv b0 b5 a8), (17, ia b8), (54, sv (some ⟨a7, 0, none⟩) 3 a0), (55, ia (a0.length : Int)), (56, ia a1), (74, sv b6 b7 a9), (75, .string (bStr a9)), (76, sv b0 b5 a8), (77, .string (bStr a8)), (78, .bool (false)), (81, sv a2 a3 (a0.getD a1.toNat [])), (82, .string d1), (83, sv a2 a3 (a0.getD a1.toNat [])), (84, .string d2), (85, .bool (true)), (95, .bool (true))] (by kernel_rfl) ?_
       refine EL.done (by kernel_rfl) ?_
       refine EQ.to ?_
       refine EQ.keep [4, 11, 13, 16, 17, 54, 55, 56, 95] [(4, sv A21 C22 l20), (11, sv a5 a6 a4), (13, sv a2 a3 (a0.getD a1.toNat [])), (16, sv b0 b5 a8), (17, ia b8), (54, sv (some ⟨a7, 0, none⟩) 3 a0), (55, ia (a0.length : Int)), (56, ia a1), (95, .bool (true))] (by kernel_rfl) ?_
       exact fun a ha => ⟨true, ha, (hS.re [2, 2, 2] [] rfl (sub_cons 0 rfl (sub_cons 2 rfl (sub_cons 1 rfl (sub_cons 3 rfl (sub_cons 4 rfl (sub_cons 5 rfl (sub_tail (sub_tail (sub_tail (sub_tail (sub_tail (sub_tail (sub_self)))))))))))))), H⟩
      rw [if_neg i3] at H
      refine EL.keep [4, 11, 13, 16, 17, 54, 55, 56, 74, 75, 76, 77, 78, 80] [(4, sv A21 C22 l20), (11, sv a5 a6 a4), (13, sv a2 a3 (a0.getD a1.toNat [])), (16, sv b0 b5 a8), (17, ia b8), (54, sv (some ⟨a7, 0, none⟩) 3 a0), (55, ia (a0.length : Int)), (56, ia a1), (74, sv b6 b7 a9), (75, .string (bStr a9)), (76, sv b0 b5 a8), (77, .string (bStr a8)), (78, .bool (!(((bStr a9).toList == (bStr a8).toList)))), (80, .bool (!(((bStr a9).toList == (bStr a8).toList))))] (by kernel_rfl) ?_
      refine EL.as' [(4, sv A21 C22 l20), (11, sv a5 a6 a4), (13, sv a2 a3 (a0.getD a1.toNat [])), (16, sv b0 b5 a8), (17, ia b8), (54, sv (some ⟨a7, 0, none⟩) 3 a0), (55, ia (a0.length : Int)), (56, ia a1), (74, sv b6 b7 a9), (75, .string (bStr a9)), (76, sv b0 b5 a8), (77, .string (bStr a8)), (78, .bool (true)), (80, .bool (true))] (by simp only [sv, (Bool.eq_false_iff.2 i3), Bool.not_true, Bool.not_false]) ?_
      refine EL.quick 15 [4, 11, 13, 16, 17, 54, 55, 56, 74, 75, 76, 77, 78, 95] [(4, sv A21 C22 l20), (11, sv a5 a6 a4), (13, sv a2 a3 (a0.getD a1.toNat [])), (16, sv b0 b5 a8), (17, ia b8), (54, sv (some ⟨a7, 0, none⟩) 3 a0), (55, ia (a0.length : Int)), (56, ia a1), (74, sv b6 b7 a9), (75, .string (bStr a9)), (76, sv b0 b5 a8), (77, .string (bStr a8)), (78, .bool (true)), (95, .bool (true))] (by kernel_rfl) ?_
      refine EL.done (by kernel_rfl) ?_
      refine EQ.to ?_
      refine EQ.keep [4, 11, 13, 16, 17, 54, 55, 56, 95] [(4, sv A21 C22 l20), (11, sv a5 a6 a4), (13, sv a2 a3 (a0.getD a1.toNat [])), (16, sv b0 b5 a8), (17, ia b8), (54, sv (some ⟨a7, 0, none⟩) 3 a0), (55, ia (a0.length : Int)), (56, ia a1), (95, .bool (true))] (by kernel_rfl) ?_
      exact fun a ha => ⟨true, ha, (hS.re [2, 2, 2] [] rfl (sub_cons 0 rfl (sub_cons 2 rfl (sub_cons 1 rfl (sub_cons 3 rfl (sub_cons 4 rfl (sub_cons 5 rfl (sub_tail (sub_tail (sub_tail (sub_tail (sub_tail (sub_tail (sub_self)))))))))))))), H⟩
     rw [if_neg i2] at H
     refine EL.keep [4, 11, 13, 14, 16, 17, 54, 55, 56, 73] [(4, sv A21 C22 l20), (11, sv a5 a6 a4), (13, sv a2 a3 (a0.getD a1.toNat [])), (14, sv b6 b7 a9), (16, sv b0 b5 a8), (17, ia b8), (54, sv (some ⟨a7, 0, none⟩) 3 a0), (55, ia (a0.length : Int)), (56, ia a1), (73, .bool (!(decide (e0 = b8))))] (by kernel_rfl) ?_
     refine EL.as' [(4, sv A21 C22 l20), (11, sv a5 a6 a4), (13, sv a2 a3 (a0.getD a1.toNat [])), (14, sv b6 b7 a9), (16, sv b0 b5 a8), (17, ia b8), (54, sv (some ⟨a7, 0, none⟩) 3 a0), (55, ia (a0.length : Int)), (56, ia a1), (73, .bool (true))] (by simp only [sv, dec_f i2, Bool.not_true, Bool.not_false]) ?_
     refine EL.quick 22 [4, 11, 13, 16, 17, 54, 55, 56, 95] [(4, sv A21 C22 l20), (11, sv a5 a6 a4), (13, sv a2 a3 (a0.getD a1.toNat [])), (16, sv b0 b5 a8), (17, ia b8), (54, sv (some ⟨a7, 0, none⟩) 3 a0), (55, ia (a0.length : Int)), (56, ia a1), (95, .bool (true))] (by kernel_rfl) ?_
     refine EL.done (by kernel_rfl) ?_
     refine EQ.to ?_
     refine EQ.keep [4, 11, 13, 16, 17, 54, 55, 56, 95] [(4, sv A21 C22 l20), (11, sv a5 a6 a4), (13, sv a2 a3 (a0.getD a1.toNat [])), (16, sv b0 b5 a8), (17, ia b8), (54, sv (some ⟨a7, 0, none⟩) 3 a0), (55, ia (a0.length : Int)), (56, ia a1), (95, .bool (true))] (by kernel_rfl) ?_
     exact fun a ha => ⟨true, ha, (hS.re [2, 2, 2] [] rfl (sub_cons 0 rfl (sub_cons 2 rfl (sub_cons 1 rfl (sub_cons 3 rfl (sub_cons 4 rfl (sub_cons 5 rfl (sub_tail (sub_tail (sub_tail (sub_tail (sub_tail (sub_tail (sub_self)))))))))))))), H⟩
    obtain ⟨f8, ha, hS, H⟩ := hI
    rw [p0] at H
    (try dsimp only at H)
    refine EW.at ?_ a ha
    clear ha a
    refine EW.cdP' (f8) (by kernel_rfl) (by kernel_rfl) (fun j7 => ?_) (fun j7 => ?_)
    ·rw [if_pos j7] at H
     refine EW.sq (by kernel_rfl) ?_
     refine EW.rg (by kernel_rfl) ?_
     refine EL.quick 1 [10] [(10, .bool (false))] (by kernel_rfl) ?_
     refine EL.done (by kernel_rfl) ?_
     refine EQ.code ?_
     refine EW.ret (by kernel_rfl) ?_
     refine EQ.ret ?_
     refine EQ.ret ?_
     refine EQ.ret ?_
     refine EQ.ret ?_
     refine EQ.ret ?_
     refine EQ.ret ?_
     obtain rfl := Option.some.inj H
     exact EQ.leave (.bool (false)) (by kernel_rfl) ⟨_, rfl, rfl, (hS.re [] [0, 0, 0] rfl (sub_cons 4 rfl (sub_cons 3 rfl (sub_cons 5 rfl (sub_tail (sub_tail (sub_tail (sub_tail (sub_tail (sub_tail (sub_self)))))))))))⟩
    rw [if_neg j7] at H
    refine EW.skip (by kernel_rfl) ?_
    refine EQ.code ?_
    refine EW.sq (by kernel_rfl) ?_
    refine EW.sq (by kernel_rfl) ?_
    refine EW.rg (by kernel_rfl) ?_
    refine EL.quick 2 [4, 11, 13, 16, 54, 55, 56, 97] [(4, sv A21 C22 l20), (11, sv a5 a6 a4), (13, sv a2 a3 (a0.getD a1.toNat [])), (16, sv b0 b5 a8), (54, sv (some ⟨a7, 0, none⟩) 3 a0), (55, ia (a0.length : Int)), (56, ia a1), (97, .bool (!(decide (b8 = 0))))] (by kernel_rfl) ?_
    refine EL.done (by kernel_rfl) ?_
    refine EQ.code ?_
    refine EW.cdQ (b := !(decide (b8 = 0))) (b8 = 0) (false) (by kernel_rfl) (by kernel_rfl) ⟨fun h => (by rw [decide_eq_true h] <;> rfl), fun h => (by rw [decide_eq_false h] <;> rfl)⟩ (fun j8 => ?_) (fun j8 => ?_)
    ·rw [if_pos j8] at H
     refine EW.skip (by kernel_rfl) ?_
     refine EQ.code ?_
     refine EW.sq (by kernel_rfl) ?_
     refine EW.rg (by kernel_rfl) ?_
     refine EL.quick 1 [4, 11, 13, 54, 55, 56, 98] [(4, sv A21 C22 l20), (11, sv a5 a6 a4), (13, sv a2 a3 (a0.getD a1.toNat [])), (54, sv (some ⟨a7, 0, none⟩) 3 a0), (55, ia (a0.length : Int)), (56, ia a1), (98, sv b0 b5 a8)] (by kernel_rfl) ?_
     have hS := St.nilO hS 5 (Kd.int .u8)
     obtain ⟨n0, H⟩ := ite_in H
     obtain ⟨f1, p4, H⟩ := lt_out H
     refine EL.of (EO.append hS 22 22 5 1 0 (Kd.int .u8) none 0 ([] : List Int) rfl b0 b5 a8 (Rd.own 1 5 rfl) f1 p4 (fun g7 g9 => Ass.own 5 (Kd.int .u8) g7 g9 f1 :: Ass.own 5 (Kd.int .u8) b0 b5 a8 :: Ass.own 5 (Kd.int .u8) b6 b7 a9 :: Ass.own 26 (Kd.slice (Kd.slice kS59)) (some ⟨a7, 0, none⟩) 3 a0 :: os) 99 (by kernel_rfl) (by kernel_rfl) (by kernel_rfl) (by kernel_rfl) n0 (fun _ _ => rfl) ?_)
     intro g7 g9 w hS
     refine EL.quick 1 [4, 11, 13, 54, 55, 56, 99, 100] [(4, sv A21 C22 l20), (11, sv a5 a6 a4), (13, sv a2 a3 (a0.getD a1.toNat [])), (54, sv (some ⟨a7, 0, none⟩) 3 a0), (55, ia (a0.length : Int)), (56, ia a1), (99, sv g7 g9 f1), (100, sv A21 C22 l20)] (by kernel_rfl) ?_
     obtain ⟨n1, H⟩ := ite_in H
     obtain ⟨d4, p5, H⟩ := lt_out H
     refine EL.of (EO.append hS 22 22 5 1 0 (Kd.int .u8) g7 g9 f1 rfl A21 C22 l20 (Rd.ro 5 rfl) d4 p5 (fun d6 d8 => Ass.own 5 (Kd.int .u8) d6 d8 d4 :: Ass.own 5 (Kd.int .u8) b0 b5 a8 :: Ass.own 5 (Kd.int .u8) b6 b7 a9 :: Ass.own 26 (Kd.slice (Kd.slice kS59)) (some ⟨a7, 0, none⟩) 3 a0 :: os) 101 (by kernel_rfl) (by kernel_rfl) (by kernel_rfl) (by kernel_rfl) n1 (fun _ _ => rfl) ?_)
     intro d6 d8 w hS
     have hS := St.fr hS 0 rfl
     have hS : St B _ (Ass.own 5 (Kd.int .u8) b0 b5 a8 :: Ass.own 5 (Kd.int .u8) b6 b7 a9 :: Ass.own 26 (Kd.slice (Kd.slice kS59)) (some ⟨a7, 0, none⟩) 3 a0 :: os) (Ro.sl (Kd.int .u8) d6 d8 d4 :: Ro.sl (Kd.slice kS59) a2 a3 (a0.getD a1.toNat []) :: Ro.sl (Kd.slice kS59) a5 a6 a4 :: Ro.sl (Kd.slice kS59) c8 c9 c7 :: Ro.sl (Kd.int .u8) A16 C17 l15 :: Ro.sl (Kd.slice kS59) A13 C14 l12 :: Ro.sl (Kd.int .u8) A21 C22 l20 :: rs) := hS.re [] [] rfl (sub_cons 0 rfl (sub_tail (sub_self)))
     obtain ⟨e1, m0, o1, H⟩ := b2_out H
     have hq := pack_New.calls o1 hS
     refine EL.of (EO.callD 16 [sv d6 d8 d4] _ 102 (by kernel_rfl) (by kernel_rfl) (by kernel_rfl) hq ?_)
     rintro v w ⟨b9, e7, e8, rfl, hS⟩
     refine EL.quick 1 [4, 11, 13, 18, 54, 55, 56] [(4, sv A21 C22 l20), (11, sv a5 a6 a4), (13, sv a2 a3 (a0.getD a1.toNat [])), (18, pt b9 0), (54, sv (some ⟨a7, 0, none⟩) 3 a0), (55, ia (a0.length : Int)), (56, ia a1)] (by kernel_rfl) ?_
     refine EL.done (by kernel_rfl) ?_
     refine EQ.code ?_
     refine EW.sq (by kernel_rfl) ?_
     refine EW.rg (by kernel_rfl) ?_
     refine EL.quick 1 [4, 11, 13, 18, 54, 55, 56, 104] [(4, sv A21 C22 l20), (11, sv a5 a6 a4), (13, sv a2 a3 (a0.getD a1.toNat [])), (18, pt b9 0), (54, sv (some ⟨a7, 0, none⟩) 3 a0), (55, ia (a0.length : Int)), (56, ia a1), (104, pt b9 0)] (by kernel_rfl) ?_
     have hS : St B _ (Ass.box 80 b9 [sv e7 e8 e1, ia m0] :: Ass.own 5 (Kd.int .u8) b0 b5 a8 :: Ass.own 5 (Kd.int .u8) b6 b7 a9 :: Ass.own 26 (Kd.slice (Kd.slice kS59)) (some ⟨a7, 0, none⟩) 3 a0 :: os) (Ro.sl (Kd.int .u8) e7 e8 e1 :: Ro.sl (Kd.int .u8) d6 d8 d4 :: Ro.sl (Kd.slice kS59) a2 a3 (a0.getD a1.toNat []) :: Ro.sl (Kd.slice kS59) a5 a6 a4 :: Ro.sl (Kd.slice kS59) c8 c9 c7 :: Ro.sl (Kd.int .u8) A16 C17 l15 :: Ro.sl (Kd.slice kS59) A13 C14 l12 :: Ro.sl (Kd.int .u8) A21 C22 l20 :: rs) := hS.re [0] [] rfl (sub_cons 0 rfl (sub_tail (sub_self)))
     obtain ⟨d3, e2, c0, e3, o2, H⟩ := b4_out H
     have hq := image_Take.calls o2 hS
     refine EL.of (EO.callD 17 [pt b9 0] _ 105 (by kernel_rfl) (by kernel_rfl) (by kernel_rfl) hq ?_)
     rintro v w ⟨d7, d9, c1, c2, rfl, hS⟩
     refine EL.quick 5 [4, 11, 13, 18, 19, 20, 54, 55, 56] [(4, sv A21 C22 l20), (11, sv a5 a6 a4), (13, sv a2 a3 (a0.getD a1.toNat [])), (18, pt b9 0), (19, sv c1 c2 c0), (20, .bool (e3)), (54, sv (some ⟨a7, 0, none⟩) 3 a0), (55, ia (a0.length : Int)), (56, ia a1)] (by kernel_rfl) ?_
     refine EL.done (by kernel_rfl) ?_
     refine EQ.code ?_
     refine EW.sq (by kernel_rfl) ?_
     refine EW.rg (by kernel_rfl) ?_
     refine EL.quick 1 [4, 11, 13, 18, 19, 20, 54, 55, 56, 109] [(4, sv A21 C22 l20), (11, sv a5 a6 a4), (13, sv a2 a3 (a0.getD a1.toNat [])), (18, pt b9 0), (19, sv c1 c2 c0), (20, .bool (e3)), (54, sv (some ⟨a7, 0, none⟩) 3 a0), (55, ia (a0.length : Int)), (56, ia a1), (109, sv a2 a3 (a0.getD a1.toNat []))] (by kernel_rfl) ?_
     have hS : St B _ (Ass.box 80 b9 [sv d7 d9 d3, ia e2] :: Ass.deep 56 59 kS59 c1 c2 c0 :: Ass.own 5 (Kd.int .u8) b0 b5 a8 :: Ass.own 5 (Kd.int .u8) b6 b7 a9 :: Ass.own 26 (Kd.slice (Kd.slice kS59)) (some ⟨a7, 0, none⟩) 3 a0 :: os) (Ro.sl (Kd.slice kS59) a2 a3 (a0.getD a1.toNat []) :: Ro.sl (Kd.int .u8) d7 d9 d3 :: Ro.sl (Kd.int .u8) e7 e8 e1 :: Ro.sl (Kd.int .u8) d6 d8 d4 :: Ro.sl (Kd.slice kS59) a5 a6 a4 :: Ro.sl (Kd.slice kS59) c8 c9 c7 :: Ro.sl (Kd.int .u8) A16 C17 l15 :: Ro.sl (Kd.slice kS59) A13 C14 l12 :: Ro.sl (Kd.int .u8) A21 C22 l20 :: rs) := hS.re [] [] rfl (sub_cons 3 rfl (sub_cons 0 rfl (sub_cons 1 rfl (sub_cons 2 rfl (sub_tail (sub_tail (sub_tail (sub_tail (sub_self)))))))))
     obtain ⟨m1, o3, H⟩ := b1_out H
     have hq := image_Text.calls o3 hS gB
     refine EL.of (EO.callD 13 [sv a2 a3 (a0.getD a1.toNat [])] _ 110 (by kernel_rfl) (by kernel_rfl) (by kernel_rfl) hq ?_)
     rintro v w ⟨rfl, hS⟩
     obtain ⟨c4, p6, c3, o4, H⟩ := b3_out H
     have hq := image_Parse.calls o4 hS gB
     refine EL.of (EO.callD 9 [.string m1] _ 111 (by kernel_rfl) (by kernel_rfl) (by kernel_rfl) hq ?_)
     rintro v w ⟨c5, c6, rfl, hS⟩
     refine EL.quick 7 [4, 11, 13, 18, 19, 20, 21, 23, 54, 55, 56] [(4, sv A21 C22 l20), (11, sv a5 a6 a4), (13, sv a2 a3 (a0.getD a1.toNat [])), (18, pt b9 0), (19, sv c1 c2 c0), (20, .bool (e3)), (21, sv c5 c6 c4), (23, ia c3), (54, sv (some ⟨a7, 0, none⟩) 3 a0), (55, ia (a0.length : Int)), (56, ia a1)] (by kernel_rfl) ?_
     refine EL.done (by kernel_rfl) ?_
     refine EQ.code ?_
     obtain ⟨e9, p1, H⟩ := lt_out H
     refine EW.ct (fun a w => ∃ g5 : List Int, ∃ j2 : Int, ∃ f9 : Bool, ∃ j3 : Option Addr, ∃ j4 : Nat, Sat 141 [(4, sv A21 C22 l20), (11, sv a5 a6 a4), (54, sv (some ⟨a7, 0, none⟩) 3 a0), (55, ia (a0.length : Int)), (56, ia a1), (139, .bool (f9))] a ∧ St B w (Ass.box 80 b9 [sv j3 j4 g5, ia j2] :: Ass.own 5 (Kd.int .u8) b0 b5 a8 :: Ass.own 5 (Kd.int .u8) b6 b7 a9 :: Ass.own 26 (Kd.slice (Kd.slice kS59)) (some ⟨a7, 0, none⟩) 3 a0 :: os) (Ro.sl (Kd.int .u8) j3 j4 g5 :: Ro.sl (Kd.slice kS59) a2 a3 (a0.getD a1.toNat []) :: Ro.sl (Kd.int .u8) d7 d9 d3 :: Ro.sl (Kd.int .u8) e7 e8 e1 :: Ro.sl (Kd.int .u8) d6 d8 d4 :: Ro.sl (Kd.slice kS59) a5 a6 a4 :: Ro.sl (Kd.slice kS59) c8 c9 c7 :: Ro.sl (Kd.int .u8) A16 C17 l15 :: Ro.sl (Kd.slice kS59) A13 C14 l12 :: Ro.sl (Kd.int .u8) A21 C22 l20 :: rs) ∧ e9 g5 j2 f9 = some f4) (by kernel_rfl) ?_ (fun a w hI => ?_)
     ·refine EW.rg (by kernel_rfl) ?_
      refine EL.quick 3 [4, 11, 13, 18, 19, 21, 23, 54, 55, 56, 117] [(4, sv A21 C22 l20), (11, sv a5 a6 a4), (13, sv a2 a3 (a0.getD a1.toNat [])), (18, pt b9 0), (19, sv c1 c2 c0), (21, sv c5 c6 c4), (23, ia c3), (54, sv (some ⟨a7, 0, none⟩) 3 a0), (55, ia (a0.length : Int)), (56, ia a1), (117, .bool (!(e3)))] (by kernel_rfl) ?_
      by_cases i5 : e3 = true
      ·rw [if_pos i5] at H
       refine EL.keep [4, 11, 13, 18, 19, 21, 23, 54, 55, 56, 117] [(4, sv A21 C22 l20), (11, sv a5 a6 a4), (13, sv a2 a3 (a0.getD a1.toNat [])), (18, pt b9 0), (19, sv c1 c2 c0), (21, sv c5 c6 c4), (23, ia c3), (54, sv (some ⟨a7, 0, none⟩) 3 a0), (55, ia (a0.length : Int)), (56, ia a1), (117, .bool (!(e3)))] (by kernel_rfl) ?_
       refine EL.as' [(4, sv A21 C22 l20), (11, sv a5 a6 a4), (13, sv a2 a3 (a0.getD a1.toNat [])), (18, pt b9 0), (19, sv c1 c2 c0), (21, sv c5 c6 c4), (23, ia c3), (54, sv (some ⟨a7, 0, none⟩) 3 a0), (55, ia (a0.length : Int)), (56, ia a1), (117, .bool (false))] (by simp only [sv, i5, Bool.not_true, Bool.not_false]) ?_
       refine EL.quick 2 [4, 11, 13, 18, 21, 23, 54, 55, 56, 117, 118, 119] [(4, sv A21 C22 l20), (11, sv a5 a6 a4), (13, sv a2 a3 (a0.getD a1.toNat [])), (18, pt b9 0), (21, sv c5 c6 c4), (23, ia c3), (54, sv (some ⟨a7, 0, none⟩) 3 a0), (55, ia (a0.length : Int)), (56, ia a1), (117, .bool (false)), (118, sv a2 a3 (a0.getD a1.toNat [])), (119, sv c1 c2 c0)] (by kernel_rfl) ?_
       have hS := St.frDeep hS 2 rfl
       have hS : St B _ (Ass.deep 56 59 kS59 c5 c6 c4 :: Ass.box 80 b9 [sv d7 d9 d3, ia e2] :: Ass.own 5 (Kd.int .u8) b0 b5 a8 :: Ass.own 5 (Kd.int .u8) b6 b7 a9 :: Ass.own 26 (Kd.slice (Kd.slice kS59)) (some ⟨a7, 0, none⟩) 3 a0 :: os) (Ro.sl (Kd.slice kS59) a2 a3 (a0.getD a1.toNat []) :: Ro.sl (Kd.slice kS59) c1 c2 c0 :: Ro.sl (Kd.int .u8) d7 d9 d3 :: Ro.sl (Kd.int .u8) e7 e8 e1 :: Ro.sl (Kd.int .u8) d6 d8 d4 :: Ro.sl (Kd.slice kS59) a5 a6 a4 :: Ro.sl (Kd.slice kS59) c8 c9 c7 :: Ro.sl (Kd.int .u8) A16 C17 l15 :: Ro.sl (Kd.slice kS59) A13 C14 l12 :: Ro.sl (Kd.int .u8) A21 C22 l20 :: rs) := hS.re [] [] rfl (sub_cons 1 rfl (sub_cons 0 rfl (sub_tail (sub_tail (sub_self)))))
       obtain ⟨d5, o5, H⟩ := b1_out H
       have hq := confidantref5_Same.calls o5 hS
       refine EL.of (EO.callD 15 [sv a2 a3 (a0.getD a1.toNat []), sv c1 c2 c0] _ 120 (by kernel_rfl) (by kernel_rfl) (by kernel_rfl) hq ?_)
       rintro v w ⟨rfl, hS⟩
       refine EL.quick 3 [4, 11, 13, 18, 21, 23, 54, 55, 56, 118, 119, 120, 121, 123] [(4, sv A21 C22 l20), (11, sv a5 a6 a4), (13, sv a2 a3 (a0.getD a1.toNat [])), (18, pt b9 0), (21, sv c5 c6 c4), (23, ia c3), (54, sv (some ⟨a7, 0, none⟩) 3 a0), (55, ia (a0.length : Int)), (56, ia a1), (118, sv a2 a3 (a0.getD a1.toNat [])), (119, sv c1 c2 c0), (120, .bool (d5)), (121, .bool (!(d5))), (123, .bool (!(d5)))] (by kernel_rfl) ?_
       by_cases i6 : d5 = true
       ·rw [if_pos i6] at H
        refine EL.keep [4, 11, 13, 18, 21, 23, 54, 55, 56, 118, 119, 120, 121, 123] [(4, sv A21 C22 l20), (11, sv a5 a6 a4), (13, sv a2 a3 (a0.getD a1.toNat [])), (18, pt b9 0), (21, sv c5 c6 c4), (23, ia c3), (54, sv (some ⟨a7, 0, none⟩) 3 a0), (55, ia (a0.length : Int)), (56, ia a1), (118, sv a2 a3 (a0.getD a1.toNat [])), (119, sv c1 c2 c0), (120, .bool (d5)), (121, .bool (!(d5))), (123, .bool (!(d5)))] (by kernel_rfl) ?_
        refine EL.as' [(4, sv A21 C22 l20), (11, sv a5 a6 a4), (13, sv a2 a3 (a0.getD a1.toNat [])), (18, pt b9 0), (21, sv c5 c6 c4), (23, ia c3), (54, sv (some ⟨a7, 0, none⟩) 3 a0), (55, ia (a0.length : Int)), (56, ia a1), (118, sv a2 a3 (a0.getD a1.toNat [])), (119, sv c1 c2 c0), (120, .bool (true)), (121, .bool (false)), (123, .bool (false))] (by simp only [sv, i6, Bool.not_true, Bool.not_false]) ?_
        refine EL.quick 1 [4, 11, 13, 21, 23, 54, 55, 56, 118, 119, 120, 121, 123, 124] [(4, sv A21 C22 l20), (11, sv a5 a6 a4), (13, sv a2 a3 (a0.getD a1.toNat [])), (21, sv c5 c6 c4), (23, ia c3), (54, sv (some ⟨a7, 0, none⟩) 3 a0), (55, ia (a0.length : Int)), (56, ia a1), (118, sv a2 a3 (a0.getD a1.toNat [])), (119, sv c1 c2 c0), (120, .bool (true)), (121, .bool (false)), (123, .bool (false)), (124, pt b9 0)] (by kernel_rfl) ?_
        have hS : St B _ (Ass.box 80 b9 [sv d7 d9 d3, ia e2] :: Ass.deep 56 59 kS59 c5 c6 c4 :: Ass.own 5 (Kd.int .u8) b0 b5 a8 :: Ass.own 5 (Kd.int .u8) b6 b7 a9 :: Ass.own 26 (Kd.slice (Kd.slice kS59)) (some ⟨a7, 0, none⟩) 3 a0 :: os) (Ro.sl (Kd.int .u8) d7 d9 d3 :: Ro.sl (Kd.slice kS59) a2 a3 (a0.getD a1.toNat []) :: Ro.sl (Kd.slice kS59) c1 c2 c0 :: Ro.sl (Kd.int .u8) e7 e8 e1 :: Ro.sl (Kd.int .u8) d6 d8 d4 :: Ro.sl (Kd.slice kS59) a5 a6 a4 :: Ro.sl (Kd.slice kS59) c8 c9 c7 :: Ro.sl (Kd.int .u8) A16 C17 l15 :: Ro.sl (Kd.slice kS59) A13 C14 l12 :: Ro.sl (Kd.int .u8) A21 C22 l20 :: rs) := hS.re [1] [] rfl (sub_cons 2 rfl (sub_cons 0 rfl (sub_cons 1 rfl (sub_tail (sub_tail (sub_tail (sub_self)))))))
        obtain ⟨e4, e6, d0, o6, H⟩ := b3_out H
        have hq := pack_Reader_Left.calls o6 hS
        refine EL.of (EO.callD 18 [pt b9 0] _ 125 (by kernel_rfl) (by kernel_rfl) (by kernel_rfl) hq ?_)
        rintro v w ⟨g0, g1, rfl, hS⟩
        refine EL.quick 5 [4, 11, 13, 21, 23, 54, 55, 56, 118, 119, 120, 121, 124, 125, 126, 127, 128, 130] [(4, sv A21 C22 l20), (11, sv a5 a6 a4), (13, sv a2 a3 (a0.getD a1.toNat [])), (21, sv c5 c6 c4), (23, ia c3), (54, sv (some ⟨a7, 0, none⟩) 3 a0), (55, ia (a0.length : Int)), (56, ia a1), (118, sv a2 a3 (a0.getD a1.toNat [])), (119, sv c1 c2 c0), (120, .bool (true)), (121, .bool (false)), (124, pt b9 0), (125, ia d0), (126, sv A21 C22 l20), (127, ia (l20.length : Int)), (128, .bool (!(decide (d0 = (l20.length : Int))))), (130, .bool (!(decide (d0 = (l20.length : Int)))))] (by kernel_rfl) ?_
        by_cases i7 : d0 = (l20.length : Int)
        ·rw [if_pos i7] at H
         refine EL.keep [4, 11, 13, 21, 23, 54, 55, 56, 118, 119, 120, 121, 124, 125, 126, 127, 128, 130] [(4, sv A21 C22 l20), (11, sv a5 a6 a4), (13, sv a2 a3 (a0.getD a1.toNat [])), (21, sv c5 c6 c4), (23, ia c3), (54, sv (some ⟨a7, 0, none⟩) 3 a0), (55, ia (a0.length : Int)), (56, ia a1), (118, sv a2 a3 (a0.getD a1.toNat [])), (119, sv c1 c2 c0), (120, .bool (true)), (121, .bool (false)), (124, pt b9 0), (125, ia d0), (126, sv A21 C22 l20), (127, ia (l20.length : Int)), (128, .bool (!(decide (d0 = (l20.length : Int))))), (130, .bool (!(decide (d0 = (l20.length : Int)))))] (by kernel_rfl) ?_
         refine EL.as' [(4, sv A21 C22 l20), (11, sv a5 a6 a4), (13, sv a2 a3 (a0.getD a1.toNat [])), (21, sv c5 c6 c4), (23, ia c3), (54, sv (some ⟨a7, 0, none⟩) 3 a0), (55, ia (a0.length : Int)), (56, ia a1), (118, sv a2 a3 (a0.getD a1.toNat [])), (119, sv c1 c2 c0), (120, .bool (true)), (121, .bool (false)), (124, pt b9 0), (125, ia d0), (126, sv A21 C22 l20), (127, ia (l20.length : Int)), (128, .bool (false)), (130, .bool (false))] (by simp only [sv, dec_t i7, Bool.not_true, Bool.not_false]) ?_
         refine EL.quick 4 [4, 11, 13, 21, 54, 55, 56, 118, 119, 120, 121, 124, 125, 126, 127, 128, 131, 132, 134] [(4, sv A21 C22 l20), (11, sv a5 a6 a4), (13, sv a2 a3 (a0.getD a1.toNat [])), (21, sv c5 c6 c4), (54, sv (some ⟨a7, 0, none⟩) 3 a0), (55, ia (a0.length : Int)), (56, ia a1), (118, sv a2 a3 (a0.getD a1.toNat [])), (119, sv c1 c2 c0), (120, .bool (true)), (121, .bool (false)), (124, pt b9 0), (125, ia d0), (126, sv A21 C22 l20), (127, ia (l20.length : Int)), (128, .bool (false)), (131, ia c3), (132, .bool (!(decide (c3 = 0)))), (134, .bool (!(decide (c3 = 0))))] (by kernel_rfl) ?_
         by_cases i8 : c3 = 0
         ·rw [if_pos i8] at H
          refine EL.keep [4, 11, 13, 21, 54, 55, 56, 118, 119, 120, 121, 124, 125, 126, 127, 128, 131, 132, 134] [(4, sv A21 C22 l20), (11, sv a5 a6 a4), (13, sv a2 a3 (a0.getD a1.toNat [])), (21, sv c5 c6 c4), (54, sv (some ⟨a7, 0, none⟩) 3 a0), (55, ia (a0.length : Int)), (56, ia a1), (118, sv a2 a3 (a0.getD a1.toNat [])), (119, sv c1 c2 c0), (120, .bool (true)), (121, .bool (false)), (124, pt b9 0), (125, ia d0), (126, sv A21 C22 l20), (127, ia (l20.length : Int)), (128, .bool (false)), (131, ia c3), (132, .bool (!(decide (c3 = 0)))), (134, .bool (!(decide (c3 = 0))))] (by kernel_rfl) ?_
          refine EL.as' [(4, sv A21 C22 l20), (11, sv a5 a6 a4), (13, sv a2 a3 (a0.getD a1.toNat [])), (21, sv c5 c6 c4), (54, sv (some ⟨a7, 0, none⟩) 3 a0), (55, ia (a0.length : Int)), (56, ia a1), (118, sv a2 a3 (a0.getD a1.toNat [])), (119, sv c1 c2 c0), (120, .bool (true)), (121, .bool (false)), (124, pt b9 0), (125, ia d0), (126, sv A21 C22 l20), (127, ia (l20.length : Int)), (128, .bool (false)), (131, ia c3), (132, .bool (false)), (134, .bool (false))] (by simp only [sv, dec_t i8, Bool.not_true, Bool.not_false]) ?_
          refine EL.quick 2 [4, 11, 54, 55, 56, 118, 119, 120, 121, 124, 125, 126, 127, 128, 131, 132, 134, 135, 136] [(4, sv A21 C22 l20), (11, sv a5 a6 a4), (54, sv (some ⟨a7, 0, none⟩) 3 a0), (55, ia (a0.length : Int)), (56, ia a1), (118, sv a2 a3 (a0.getD a1.toNat [])), (119, sv c1 c2 c0), (120, .bool (true)), (121, .bool (false)), (124, pt b9 0), (125, ia d0), (126, sv A21 C22 l20), (127, ia (l20.length : Int)), (128, .bool (false)), (131, ia c3), (132, .bool (false)), (134, .bool (false)), (135, sv a2 a3 (a0.getD a1.toNat [])), (136, sv c5 c6 c4)] (by kernel_rfl) ?_
          have hS := St.frDeep hS 1 rfl
          have hS : St B _ (Ass.box 80 b9 [sv g0 g1 e4, ia e6] :: Ass.own 5 (Kd.int .u8) b0 b5 a8 :: Ass.own 5 (Kd.int .u8) b6 b7 a9 :: Ass.own 26 (Kd.slice (Kd.slice kS59)) (some ⟨a7, 0, none⟩) 3 a0 :: os) (Ro.sl (Kd.slice kS59) a2 a3 (a0.getD a1.toNat []) :: Ro.sl (Kd.slice kS59) c5 c6 c4 :: Ro.sl (Kd.int .u8) g0 g1 e4 :: Ro.sl (Kd.int .u8) d7 d9 d3 :: Ro.sl (Kd.slice kS59) c1 c2 c0 :: Ro.sl (Kd.int .u8) e7 e8 e1 :: Ro.sl (Kd.int .u8) d6 d8 d4 :: Ro.sl (Kd.slice kS59) a5 a6 a4 :: Ro.sl (Kd.slice kS59) c8 c9 c7 :: Ro.sl (Kd.int .u8) A16 C17 l15 :: Ro.sl (Kd.slice kS59) A13 C14 l12 :: Ro.sl (Kd.int .u8) A21 C22 l20 :: rs) := hS.re [] [] rfl (sub_cons 3 rfl (sub_cons 0 rfl (sub_cons 1 rfl (sub_cons 2 rfl (sub_tail (sub_tail (sub_tail (sub_tail (sub_self)))))))))
          obtain ⟨f3, o7, H⟩ := b1_out H
          have hq := confidantref5_Same.calls o7 hS
          refine EL.of (EO.callD 15 [sv a2 a3 (a0.getD a1.toNat []), sv c5 c6 c4] _ 137 (by kernel_rfl) (by kernel_rfl) (by kernel_rfl) hq ?_)
          rintro v w ⟨rfl, hS⟩
          refine EL.quick 2 [4, 11, 54, 55, 56, 118, 119, 120, 121, 124, 125, 126, 127, 128, 131, 132, 135, 136, 137, 138, 139] [(4, sv A21 C22 l20), (11, sv a5 a6 a4), (54, sv (some ⟨a7, 0, none⟩) 3 a0), (55, ia (a0.length : Int)), (56, ia a1), (118, sv a2 a3 (a0.getD a1.toNat [])), (119, sv c1 c2 c0), (120, .bool (true)), (121, .bool (false)), (124, pt b9 0), (125, ia d0), (126, sv A21 C22 l20), (127, ia (l20.length : Int)), (128, .bool (false)), (131, ia c3), (132, .bool (false)), (135, sv a2 a3 (a0.getD a1.toNat [])), (136, sv c5 c6 c4), (137, .bool (f3)), (138, .bool (!(f3))), (139, .bool (!(f3)))] (by kernel_rfl) ?_
          refine EL.done (by kernel_rfl) ?_
          refine EQ.to ?_
          refine EQ.keep [4, 11, 54, 55, 56, 139] [(4, sv A21 C22 l20), (11, sv a5 a6 a4), (54, sv (some ⟨a7, 0, none⟩) 3 a0), (55, ia (a0.length : Int)), (56, ia a1), (139, .bool (!(f3)))] (by kernel_rfl) ?_
          exact fun a ha => ⟨e4, e6, !(f3), g0, g1, ha, (hS.re [3, 3, 3, 3] [] rfl (sub_cons 2 rfl (sub_cons 0 rfl (sub_cons 3 rfl (sub_cons 5 rfl (sub_cons 6 rfl (sub_cons 7 rfl (sub_cons 8 rfl (sub_cons 9 rfl (sub_cons 10 rfl (sub_cons 11 rfl (sub_tail (sub_tail (sub_tail (sub_tail (sub_tail (sub_tail (sub_tail (sub_tail (sub_tail (sub_tail (sub_tail (sub_tail (sub_self)))))))))))))))))))))))), H⟩
         rw [if_neg i8] at H
         refine EL.keep [4, 11, 13, 21, 54, 55, 56, 118, 119, 120, 121, 124, 125, 126, 127, 128, 131, 132, 134] [(4, sv A21 C22 l20), (11, sv a5 a6 a4), (13, sv a2 a3 (a0.getD a1.toNat [])), (21, sv c5 c6 c4), (54, sv (some ⟨a7, 0, none⟩) 3 a0), (55, ia (a0.length : Int)), (56, ia a1), (118, sv a2 a3 (a0.getD a1.toNat [])), (119, sv c1 c2 c0), (120, .bool (true)), (121, .bool (false)), (124, pt b9 0), (125, ia d0), (126, sv A21 C22 l20), (127, ia (l20.length : Int)), (128, .bool (false)), (131, ia c3), (132, .bool (!(decide (c3 = 0)))), (134, .bool (!(decide (c3 = 0))))] (by kernel_rfl) ?_
         refine EL.as' [(4, sv A21 C22 l20), (11, sv a5 a6 a4), (13, sv a2 a3 (a0.getD a1.toNat [])), (21, sv c5 c6 c4), (54, sv (some ⟨a7, 0, none⟩) 3 a0), (55, ia (a0.length : Int)), (56, ia a1), (118, sv a2 a3 (a0.getD a1.toNat [])), (119, sv c1 c2 c0), (120, .bool (true)), (121, .bool (false)), (124, pt b9 0), (125, ia d0), (126, sv A21 C22 l20), (127, ia (l20.length : Int)), (128, .bool (false)), (131, ia c3), (132, .bool (true)), (134, .bool (true))] (by simp only [sv, dec_f i8, Bool.not_true, Bool.not_false]) ?_
         refine EL.quick 5 [4, 11, 54, 55, 56, 118, 119, 120, 121, 124, 125, 126, 127, 128, 131, 132, 139] [(4, sv A21 C22 l20), (11, sv a5 a6 a4), (54, sv (some ⟨a7, 0, none⟩) 3 a0), (55, ia (a0.length : Int)), (56, ia a1), (118, sv a2 a3 (a0.getD a1.toNat [])), (119, sv c1 c2 c0), (120, .bool (true)), (121, .bool (false)), (124, pt b9 0), (125, ia d0), (126, sv A21 C22 l20), (127, ia (l20.length : Int)), (128, .bool (false)), (131, ia c3), (132, .bool (true)), (139, .bool (true))] (by kernel_rfl) ?_
         refine EL.done (by kernel_rfl) ?_
         refine EQ.to ?_
         refine EQ.keep [4, 11, 54, 55, 56, 139] [(4, sv A21 C22 l20), (11, sv a5 a6 a4), (54, sv (some ⟨a7, 0, none⟩) 3 a0), (55, ia (a0.length : Int)), (56, ia a1), (139, .bool (true))] (by kernel_rfl) ?_
         exact fun a ha => ⟨e4, e6, true, g0, g1, ha, (hS.re [4, 4, 4, 3] [4] rfl (sub_cons 0 rfl (sub_cons 2 rfl (sub_cons 1 rfl (sub_cons 4 rfl (sub_cons 5 rfl (sub_cons 6 rfl (sub_cons 7 rfl (sub_cons 8 rfl (sub_cons 9 rfl (sub_cons 10 rfl (sub_tail (sub_tail (sub_tail (sub_tail (sub_tail (sub_tail (sub_tail (sub_tail (sub_tail (sub_tail (sub_tail (sub_self))))))))))))))))))))))), H⟩
        rw [if_neg i7] at H
        refine EL.keep [4, 11, 13, 21, 23, 54, 55, 56, 118, 119, 120, 121, 124, 125, 126, 127, 128, 130] [(4, sv A21 C22 l20), (11, sv a5 a6 a4), (13, sv a2 a3 (a0.getD a1.toNat [])), (21, sv c5 c6 c4), (23, ia c3), (54, sv (some ⟨a7, 0, none⟩) 3 a0), (55, ia (a0.length : Int)), (56, ia a1), (118, sv a2 a3 (a0.getD a1.toNat [])), (119, sv c1 c2 c0), (120, .bool (true)), (121, .bool (false)), (124, pt b9 0), (125, ia d0), (126, sv A21 C22 l20), (127, ia (l20.length : Int)), (128, .bool (!(decide (d0 = (l20.length : Int))))), (130, .bool (!(decide (d0 = (l20.length : Int)))))] (by kernel_rfl) ?_
        refine EL.as' [(4, sv A21 C22 l20), (11, sv a5 a6 a4), (13, sv a2 a3 (a0.getD a1.toNat [])), (21, sv c5 c6 c4), (23, ia c3), (54, sv (some ⟨a7, 0, none⟩) 3 a0), (55, ia (a0.length : Int)), (56, ia a1), (118, sv a2 a3 (a0.getD a1.toNat [])), (119, sv c1 c2 c0), (120, .bool (true)), (121, .bool (false)), (124, pt b9 0), (125, ia d0), (126, sv A21 C22 l20), (127, ia (l20.length : Int)), (128, .bool (true)), (130, .bool (true))] (by simp only [sv, dec_f i7, Bool.not_true, Bool.not_false]) ?_
        refine EL.quick 9 [4, 11, 54, 55, 56, 118, 119, 120, 121, 124, 125, 126, 127, 128, 139] [(4, sv A21 C22 l20), (11, sv a5 a6 a4), (54, sv (some ⟨a7, 0, none⟩) 3 a0), (55, ia (a0.length : Int)), (56, ia a1), (118, sv a2 a3 (a0.getD a1.toNat [])), (119, sv c1 c2 c0), (120, .bool (true)), (121, .bool (false)), (124, pt b9 0), (125, ia d0), (126, sv A21 C22 l20), (127, ia (l20.length : Int)), (128, .bool (true)), (139, .bool (true))] (by kernel_rfl) ?_
        refine EL.done (by kernel_rfl) ?_
        refine EQ.to ?_
        refine EQ.keep [4, 11, 54, 55, 56, 139] [(4, sv A21 C22 l20), (11, sv a5 a6 a4), (54, sv (some ⟨a7, 0, none⟩) 3 a0), (55, ia (a0.length : Int)), (56, ia a1), (139, .bool (true))] (by kernel_rfl) ?_
        exact fun a ha => ⟨e4, e6, true, g0, g1, ha, (hS.re [4, 4, 4, 3] [4] rfl (sub_cons 0 rfl (sub_cons 2 rfl (sub_cons 1 rfl (sub_cons 4 rfl (sub_cons 5 rfl (sub_cons 6 rfl (sub_cons 7 rfl (sub_cons 8 rfl (sub_cons 9 rfl (sub_cons 10 rfl (sub_tail (sub_tail (sub_tail (sub_tail (sub_tail (sub_tail (sub_tail (sub_tail (sub_tail (sub_tail (sub_tail (sub_self))))))))))))))))))))))), H⟩
       rw [if_neg i6] at H
       refine EL.keep [4, 11, 13, 18, 21, 23, 54, 55, 56, 118, 119, 120, 121, 123] [(4, sv A21 C22 l20), (11, sv a5 a6 a4), (13, sv a2 a3 (a0.getD a1.toNat [])), (18, pt b9 0), (21, sv c5 c6 c4), (23, ia c3), (54, sv (some ⟨a7, 0, none⟩) 3 a0), (55, ia (a0.length : Int)), (56, ia a1), (118, sv a2 a3 (a0.getD a1.toNat [])), (119, sv c1 c2 c0), (120, .bool (d5)), (121, .bool (!(d5))), (123, .bool (!(d5)))] (by kernel_rfl) ?_
       refine EL.as' [(4, sv A21 C22 l20), (11, sv a5 a6 a4), (13, sv a2 a3 (a0.getD a1.toNat [])), (18, pt b9 0), (21, sv c5 c6 c4), (23, ia c3), (54, sv (some ⟨a7, 0, none⟩) 3 a0), (55, ia (a0.length : Int)), (56, ia a1), (118, sv a2 a3 (a0.getD a1.toNat [])), (119, sv c1 c2 c0), (120, .bool (false)), (121, .bool (true)), (123, .bool (true))] (by simp only [sv, (Bool.eq_false_iff.2 i6), Bool.not_true, Bool.not_false]) ?_
       refine EL.quick 16 [4, 11, 54, 55, 56, 118, 119, 120, 121, 139] [(4, sv A21 C22 l20), (11, sv a5 a6 a4), (54, sv (some ⟨a7, 0, none⟩) 3 a0), (55, ia (a0.length : Int)), (56, ia a1), (118, sv a2 a3 (a0.getD a1.toNat [])), (119, sv c1 c2 c0), (120, .bool (false)), (121, .bool (true)), (139, .bool (true))] (by kernel_rfl) ?_
       refine EL.done (by kernel_rfl) ?_
       refine EQ.to ?_
       refine EQ.keep [4, 11, 54, 55, 56, 139] [(4, sv A21 C22 l20), (11, sv a5 a6 a4), (54, sv (some ⟨a7, 0, none⟩) 3 a0), (55, ia (a0.length : Int)), (56, ia a1), (139, .bool (true))] (by kernel_rfl) ?_
       exact fun a ha => ⟨d3, e2, true, d7, d9, ha, (hS.re [4, 4, 4, 4] [4] rfl (sub_cons 2 rfl (sub_cons 0 rfl (sub_cons 2 rfl (sub_cons 3 rfl (sub_cons 4 rfl (sub_cons 5 rfl (sub_cons 6 rfl (sub_cons 7 rfl (sub_cons 8 rfl (sub_cons 9 rfl (sub_tail (sub_tail (sub_tail (sub_tail (sub_tail (sub_tail (sub_tail (sub_tail (sub_tail (sub_tail (sub_self)))))))))))))))))))))), H⟩
      rw [if_neg i5] at H
      refine EL.keep [4, 11, 13, 18, 19, 21, 23, 54, 55, 56, 117] [(4, sv A21 C22 l20), (11, sv a5 a6 a4), (13, sv a2 a3 (a0.getD a1.toNat [])), (18, pt b9 0), (19, sv c1 c2 c0), (21, sv c5 c6 c4), (23, ia c3), (54, sv (some ⟨a7, 0, none⟩) 3 a0), (55, ia (a0.length : Int)), (56, ia a1), (117, .bool (!(e3)))] (by kernel_rfl) ?_
      refine EL.as' [(4, sv A21 C22 l20), (11, sv a5 a6 a4), (13, sv a2 a3 (a0.getD a1.toNat [])), (18, pt b9 0), (19, sv c1 c2 c0), (21, sv c5 c6 c4), (23, ia c3), (54, sv (some ⟨a7, 0, none⟩) 3 a0), (55, ia (a0.length : Int)), (56, ia a1), (117, .bool (true))] (by simp only [sv, (Bool.eq_false_iff.2 i5), Bool.not_true, Bool.not_false]) ?_
      refine EL.quick 22 [4, 11, 54, 55, 56, 139] [(4, sv A21 C22 l20), (11, sv a5 a6 a4), (54, sv (some ⟨a7, 0, none⟩) 3 a0), (55, ia (a0.length : Int)), (56, ia a1), (139, .bool (true))] (by kernel_rfl) ?_
      refine EL.done (by kernel_rfl) ?_
      refine EQ.to ?_
      refine EQ.keep [4, 11, 54, 55, 56, 139] [(4, sv A21 C22 l20), (11, sv a5 a6 a4), (54, sv (some ⟨a7, 0, none⟩) 3 a0), (55, ia (a0.length : Int)), (56, ia a1), (139, .bool (true))] (by kernel_rfl) ?_
      exact fun a ha => ⟨d3, e2, true, d7, d9, ha, (hS.re [5, 5, 5, 4] [4, 4] rfl (sub_cons 1 rfl (sub_cons 0 rfl (sub_cons 1 rfl (sub_cons 2 rfl (sub_cons 3 rfl (sub_cons 4 rfl (sub_cons 5 rfl (sub_cons 6 rfl (sub_cons 7 rfl (sub_cons 8 rfl (sub_tail (sub_tail (sub_tail (sub_tail (sub_tail (sub_tail (sub_tail (sub_tail (sub_tail (sub_self))))))))))))))))))))), H⟩
     obtain ⟨g5, j2, f9, j3, j4, ha, hS, H⟩ := hI
     rw [p1] at H
     (try dsimp only at H)
     refine EW.at ?_ a ha
     clear ha a
     refine EW.cdP' (f9) (by kernel_rfl) (by kernel_rfl) (fun j9 => ?_) (fun j9 => ?_)
     ·rw [if_pos j9] at H
      refine EW.sq (by kernel_rfl) ?_
      refine EW.rg (by kernel_rfl) ?_
      refine EL.quick 1 [10] [(10, .bool (false))] (by kernel_rfl) ?_
      refine EL.done (by kernel_rfl) ?_
      refine EQ.code ?_
      refine EW.ret (by kernel_rfl) ?_
      refine EQ.ret ?_
      refine EQ.ret ?_
      refine EQ.ret ?_
      refine EQ.ret ?_
      refine EQ.ret ?_
      obtain rfl := Option.some.inj H
      exact EQ.leave (.bool (false)) (by kernel_rfl) ⟨_, rfl, rfl, (hS.re [] [0, 0, 0, 0] rfl (sub_cons 8 rfl (sub_cons 7 rfl (sub_cons 9 rfl (sub_tail (sub_tail (sub_tail (sub_tail (sub_tail (sub_tail (sub_tail (sub_tail (sub_tail (sub_tail (sub_self)))))))))))))))⟩
     rw [if_neg j9] at H
     refine EW.skip (by kernel_rfl) ?_
     refine EQ.pop ?_
     refine EQ.to ?_
     refine EQ.keep [4, 11, 54, 55, 56] [(4, sv A21 C22 l20), (11, sv a5 a6 a4), (54, sv (some ⟨a7, 0, none⟩) 3 a0), (55, ia (a0.length : Int)), (56, ia a1)] (by kernel_rfl) ?_
     exact fun a ha => ⟨a8, a9, b0, b5, b6, b7, ha, (hS.re [3, 3, 3] [3] rfl (sub_cons 5 rfl (sub_cons 6 rfl (sub_cons 7 rfl (sub_cons 8 rfl (sub_cons 9 rfl (sub_tail (sub_tail (sub_tail (sub_tail (sub_tail (sub_tail (sub_tail (sub_tail (sub_tail (sub_tail (sub_self))))))))))))))))), H⟩
    rw [if_neg j8] at H
    refine EW.exit (id := 1) (by kernel_rfl) ?_
    refine EQ.exitCode ?_
    refine EQ.exitHere ?_
    refine EQ.to ?_
    refine EQ.keep [4, 11, 54, 55, 56] [(4, sv A21 C22 l20), (11, sv a5 a6 a4), (54, sv (some ⟨a7, 0, none⟩) 3 a0), (55, ia (a0.length : Int)), (56, ia a1)] (by kernel_rfl) ?_
    exact fun a ha => ⟨a8, a9, b0, b5, b6, b7, ha, (hS.re [2, 2, 2] [] rfl (sub_cons 1 rfl (sub_cons 2 rfl (sub_cons 3 rfl (sub_cons 4 rfl (sub_cons 5 rfl (sub_tail (sub_tail (sub_tail (sub_tail (sub_tail (sub_tail (sub_self))))))))))))), H⟩
   obtain ⟨j0, j1, m2, m4, m3, m5, ha, hS, H⟩ := hI
   rw [o9] at H
   (try dsimp only at H)
   refine EW.at ?_ a ha
   clear ha a
   refine EW.rg (by kernel_rfl) ?_
   refine EL.quick 2 [4, 11, 54, 55, 56] [(4, sv A21 C22 l20), (11, sv a5 a6 a4), (54, sv (some ⟨a7, 0, none⟩) 3 a0), (55, ia (a0.length : Int)), (56, ia (IntKind.i64.wrap (a1 + 1)))] (by kernel_rfl) ?_
   refine EL.done (by kernel_rfl) ?_
   refine EQ.to ?_
   refine EQ.keep [4, 11, 54, 55, 56] [(4, sv A21 C22 l20), (11, sv a5 a6 a4), (54, sv (some ⟨a7, 0, none⟩) 3 a0), (55, ia (a0.length : Int)), (56, ia (IntKind.i64.wrap (a1 + 1)))] (by kernel_rfl) ?_
   exact fun a ha => ⟨n, Nat.lt_succ_self n, IntKind.i64.wrap (a1 + 1), ha, (hS.re [2] [1, 1] rfl (sub_cons 1 rfl (sub_cons 0 rfl (sub_cons 2 rfl (sub_cons 3 rfl (sub_cons 4 rfl (sub_tail (sub_tail (sub_tail (sub_tail (sub_tail (sub_self)))))))))))), H⟩
  rw [if_neg g2] at H
  refine EW.exit (id := 0) (by kernel_rfl) ?_
  refine EQ.exitCode ?_
  refine EQ.exitTo ?_
  refine EQ.exitHere ?_
  refine EQ.code ?_
  refine EW.sq (by kernel_rfl) ?_
  refine EW.rg (by kernel_rfl) ?_
  refine EL.quick 1 [10] [(10, .bool (true))] (by kernel_rfl) ?_
  refine EL.done (by kernel_rfl) ?_
  refine EQ.code ?_
  refine EW.ret (by kernel_rfl) ?_
  obtain rfl := Option.some.inj H
  exact EQ.leave (.bool (true)) (by kernel_rfl) ⟨_, rfl, rfl, (hS.re [] [0] rfl (sub_cons 3 rfl (sub_cons 2 rfl (sub_cons 4 rfl (sub_tail (sub_tail (sub_tail (sub_tail (sub_tail (sub_self))))))))))⟩
 rw [if_neg j5] at H
 refine EW.sq (by kernel_rfl) ?_
 refine EW.rg (by kernel_rfl) ?_
 refine EL.quick 1 [10] [(10, .bool (false))] (by kernel_rfl) ?_
 refine EL.done (by kernel_rfl) ?_
 refine EQ.code ?_
 refine EW.ret (by kernel_rfl) ?_
 refine EQ.ret ?_
 obtain rfl := Option.some.inj H
 exact EQ.leave (.bool (false)) (by kernel_rfl) ⟨_, rfl, rfl, (hS.re [] [] rfl (sub_self))⟩

def okS59 (s : S59) : Prop := ((Lit.int .i64 s.f0).wf = true) ∧ ((Lit.int .i32 s.f1).wf = true) ∧ True
theorem oS59 : Opens Tryz.prog 59 kS59 okS59 := Opens.struct (fun s : S59 => (s.f0, s.f1, ())) (fun a => ⟨a.1, a.2.1⟩) (fun _ => rfl) Tryz.underlying59 (OpensF.cons (Opens.int Tryz.underlying3) (OpensF.cons (Opens.int Tryz.underlying21) OpensF.nil rfl (by kernel_rfl)) rfl (by kernel_rfl)) (by kernel_rfl)
def confidantlaw7_ImageTells.Pure : Prop := ∀ (l12 : List (List S59)) (l15 : List Int) (a18 : Int) (a19 : Int) (l20 : List Int), l12.length * 24 ≤ 140737488351232 → (∀ x ∈ l12, x.length * 16 ≤ 140737488351232 ∧ (∀ y ∈ x, okS59 y)) → l15.length * 1 ≤ 140737488351232 → (∀ x ∈ l15, (Lit.int .u8 x).wf = true) → (Lit.int .u8 a18).wf = true → (Lit.int .u8 a19).wf = true → l20.length * 1 ≤ 140737488351232 → (∀ x ∈ l20, (Lit.int .u8 x).wf = true) → ∃ K, confidantlaw7_ImageTells.f K l12 l15 a18 a19 l20 = some true

end Go.Proofs.YtiilloijkbabbaaGreatDoor.G
