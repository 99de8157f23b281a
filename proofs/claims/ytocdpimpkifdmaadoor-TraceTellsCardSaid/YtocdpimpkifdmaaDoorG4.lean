import Derived.Test.YtocdpimpkifdmaaDoorProg
import Derived.Test.YtocdpimpkifdmaaDoorFwShort
import Derived.Test.YtocdpimpkifdmaaDoorFwOpen
import Derived.Test.YtocdpimpkifdmaaDoorDoor
import Derived.Test.YtocdpimpkifdmaaDoorG0
import Derived.Test.YtocdpimpkifdmaaDoorG1
import Derived.Test.YtocdpimpkifdmaaDoorG2
import Derived.Test.YtocdpimpkifdmaaDoorG3
namespace Go.Proofs.YtocdpimpkifdmaaDoor.G
open Go Go.Fw Go.RowKit Go.Proofs
set_option linter.unusedVariables false
set_option linter.unusedSimpArgs false

set_option maxRecDepth 100000 in
theorem confidantlaw23_TraceTells.calls {K : Nat} {l13 : List S28} {l16 : List S50} {a19 : Int} {a20 : Int} {l21 : List Int} {a24 : Int} {A14 : Option Addr} {C15 : Nat} {A17 : Option Addr} {C18 : Nat} {A22 : Option Addr} {C23 : Nat} {d0 : Bool} {B w : World} {os : List Ass} {rs : List Ro} (H : confidantlaw23_TraceTells.f K l13 l16 a19 a20 l21 a24 = some d0) (hS : St B w (os) (Ro.sl kS28 A14 C15 l13 :: Ro.sl kS50 A17 C18 l16 :: Ro.sl (Kd.int .i64) A22 C23 l21 :: rs)) (gB : Glob B) :
  Calls Tryd.prog 3 [sv A14 C15 l13, sv A17 C18 l16, ig a19, ig a20, sv A22 C23 l21, ia a24].toArray w (fun en w' => ∃ v, en = .returned v ∧ v = .bool (d0) ∧ St B w' (os) (Ro.sl kS28 A14 C15 l13 :: Ro.sl kS50 A17 C18 l16 :: Ro.sl (Kd.int .i64) A22 C23 l21 :: rs)) := by
 unfold confidantlaw23_TraceTells.f at H
 refine calls_of_EW (args := [sv A14 C15 l13, sv A17 C18 l16, ig a19, ig a20, sv A22 C23 l21, ia a24]) (c := Cd3) 187 Tryd.func3 (by kernel_rfl) (by kernel_rfl) (by kernel_rfl) ?_
 refine EW.sq (by kernel_rfl) ?_
 refine EW.rg (by kernel_rfl) ?_
 refine EL.quick 1 [0, 1, 2, 3, 4, 5] [(0, sv A14 C15 l13), (1, sv A17 C18 l16), (2, ig a19), (3, ig a20), (4, sv A22 C23 l21), (5, ia a24)] (by kernel_rfl) ?_
 refine EL.done (by kernel_rfl) ?_
 refine EQ.code ?_
 refine EW.sq (by kernel_rfl) ?_
 refine EW.sq (by kernel_rfl) ?_
 refine EW.rg (by kernel_rfl) ?_
 obtain ⟨p6, v3, H⟩ := b1_out H
 have hq := confidantlaw23_known.calls v3 hS gB
 refine EL.of (EO.callD 11 [] _ 22 (by kernel_rfl) (by kernel_rfl) (by kernel_rfl) hq ?_)
 rintro v w ⟨rfl, hS⟩
 refine EL.quick 1 [0, 1, 2, 3, 4, 5, 23] [(0, sv A14 C15 l13), (1, sv A17 C18 l16), (2, ig a19), (3, ig a20), (4, sv A22 C23 l21), (5, ia a24), (23, .bool (!(p6)))] (by kernel_rfl) ?_
 refine EL.done (by kernel_rfl) ?_
 refine EQ.code ?_
 refine EW.cdQ (b := !(p6)) (p6 = true) (false) (by kernel_rfl) (by kernel_rfl) ⟨fun h => (by rw [h] <;> rfl), fun h => (by rw [Bool.eq_false_iff.2 h] <;> rfl)⟩ (fun n2 => ?_) (fun n2 => ?_)
 ·rw [if_pos n2] at H
  refine EW.skip (by kernel_rfl) ?_
  refine EQ.code ?_
  refine EW.sq (by kernel_rfl) ?_
  obtain ⟨y0, x2, H⟩ := lt_out H
  refine EW.ct (fun a w => ∃ m2 : Bool, Sat 187 [(0, sv A14 C15 l13), (1, sv A17 C18 l16), (2, ig a19), (3, ig a20), (4, sv A22 C23 l21), (5, ia a24), (36, .bool (m2))] a ∧ St B w (os) (Ro.sl kS28 A14 C15 l13 :: Ro.sl kS50 A17 C18 l16 :: Ro.sl (Kd.int .i64) A22 C23 l21 :: rs) ∧ y0 m2 = some d0) (by kernel_rfl) ?_ (fun a w hI => ?_)
  ·refine EW.rg (by kernel_rfl) ?_
   refine EL.quick 4 [0, 1, 2, 3, 4, 5, 27] [(0, sv A14 C15 l13), (1, sv A17 C18 l16), (2, ig a19), (3, ig a20), (4, sv A22 C23 l21), (5, ia a24), (27, .bool (decide ((l13.length : Int) > 20)))] (by kernel_rfl) ?_
   by_cases j3 : (l13.length : Int) > 20
   ·rw [if_pos j3] at H
    refine EL.keep [0, 1, 2, 3, 4, 5, 27] [(0, sv A14 C15 l13), (1, sv A17 C18 l16), (2, ig a19), (3, ig a20), (4, sv A22 C23 l21), (5, ia a24), (27, .bool (decide ((l13.length : Int) > 20)))] (by kernel_rfl) ?_
    refine EL.as' [(0, sv A14 C15 l13), (1, sv A17 C18 l16), (2, ig a19), (3, ig a20), (4, sv A22 C23 l21), (5, ia a24), (27, .bool (true))] (by simp only [encS28, sv, dec_t j3, Bool.not_true, Bool.not_false]) ?_
    refine EL.quick 9 [0, 1, 2, 3, 4, 5, 36] [(0, sv A14 C15 l13), (1, sv A17 C18 l16), (2, ig a19), (3, ig a20), (4, sv A22 C23 l21), (5, ia a24), (36, .bool (true))] (by kernel_rfl) ?_
    refine EL.done (by kernel_rfl) ?_
    refine EQ.to ?_
    refine EQ.keep [0, 1, 2, 3, 4, 5, 36] [(0, sv A14 C15 l13), (1, sv A17 C18 l16), (2, ig a19), (3, ig a20), (4, sv A22 C23 l21), (5, ia a24), (36, .bool (true))] (by kernel_rfl) ?_
    exact fun a ha => ⟨true, ha, (hS.re [] [] rfl (sub_cons 0 rfl (sub_cons 1 rfl (sub_cons 2 rfl (sub_tail (sub_tail (sub_tail (sub_self)))))))), H⟩
   rw [if_neg j3] at H
   refine EL.keep [0, 1, 2, 3, 4, 5, 27] [(0, sv A14 C15 l13), (1, sv A17 C18 l16), (2, ig a19), (3, ig a20), (4, sv A22 C23 l21), (5, ia a24), (27, .bool (decide ((l13.length : Int) > 20)))] (by kernel_rfl) ?_
   refine EL.as' [(0, sv A14 C15 l13), (1, sv A17 C18 l16), (2, ig a19), (3, ig a20), (4, sv A22 C23 l21), (5, ia a24), (27, .bool (false))] (by simp only [encS28, sv, dec_f j3, Bool.not_true, Bool.not_false]) ?_
   refine EL.quick 5 [0, 1, 2, 3, 4, 5, 32] [(0, sv A14 C15 l13), (1, sv A17 C18 l16), (2, ig a19), (3, ig a20), (4, sv A22 C23 l21), (5, ia a24), (32, .bool (decide ((l16.length : Int) > 30)))] (by kernel_rfl) ?_
   by_cases j4 : (l16.length : Int) > 30
   ·rw [if_pos j4] at H
    refine EL.keep [0, 1, 2, 3, 4, 5, 32] [(0, sv A14 C15 l13), (1, sv A17 C18 l16), (2, ig a19), (3, ig a20), (4, sv A22 C23 l21), (5, ia a24), (32, .bool (decide ((l16.length : Int) > 30)))] (by kernel_rfl) ?_
    refine EL.as' [(0, sv A14 C15 l13), (1, sv A17 C18 l16), (2, ig a19), (3, ig a20), (4, sv A22 C23 l21), (5, ia a24), (32, .bool (true))] (by simp only [encS28, sv, dec_t j4, Bool.not_true, Bool.not_false]) ?_
    refine EL.quick 4 [0, 1, 2, 3, 4, 5, 36] [(0, sv A14 C15 l13), (1, sv A17 C18 l16), (2, ig a19), (3, ig a20), (4, sv A22 C23 l21), (5, ia a24), (36, .bool (true))] (by kernel_rfl) ?_
    refine EL.done (by kernel_rfl) ?_
    refine EQ.to ?_
    refine EQ.keep [0, 1, 2, 3, 4, 5, 36] [(0, sv A14 C15 l13), (1, sv A17 C18 l16), (2, ig a19), (3, ig a20), (4, sv A22 C23 l21), (5, ia a24), (36, .bool (true))] (by kernel_rfl) ?_
    exact fun a ha => ⟨true, ha, (hS.re [] [] rfl (sub_cons 0 rfl (sub_cons 1 rfl (sub_cons 2 rfl (sub_tail (sub_tail (sub_tail (sub_self)))))))), H⟩
   rw [if_neg j4] at H
   refine EL.keep [0, 1, 2, 3, 4, 5, 32] [(0, sv A14 C15 l13), (1, sv A17 C18 l16), (2, ig a19), (3, ig a20), (4, sv A22 C23 l21), (5, ia a24), (32, .bool (decide ((l16.length : Int) > 30)))] (by kernel_rfl) ?_
   refine EL.as' [(0, sv A14 C15 l13), (1, sv A17 C18 l16), (2, ig a19), (3, ig a20), (4, sv A22 C23 l21), (5, ia a24), (32, .bool (false))] (by simp only [encS28, sv, dec_f j4, Bool.not_true, Bool.not_false]) ?_
   refine EL.quick 4 [0, 1, 2, 3, 4, 5, 36] [(0, sv A14 C15 l13), (1, sv A17 C18 l16), (2, ig a19), (3, ig a20), (4, sv A22 C23 l21), (5, ia a24), (36, .bool (decide ((l21.length : Int) > 8)))] (by kernel_rfl) ?_
   refine EL.done (by kernel_rfl) ?_
   refine EQ.to ?_
   refine EQ.keep [0, 1, 2, 3, 4, 5, 36] [(0, sv A14 C15 l13), (1, sv A17 C18 l16), (2, ig a19), (3, ig a20), (4, sv A22 C23 l21), (5, ia a24), (36, .bool (decide ((l21.length : Int) > 8)))] (by kernel_rfl) ?_
   exact fun a ha => ⟨decide ((l21.length : Int) > 8), ha, (hS.re [] [] rfl (sub_cons 0 rfl (sub_cons 1 rfl (sub_cons 2 rfl (sub_tail (sub_tail (sub_tail (sub_self)))))))), H⟩
  obtain ⟨m2, ha, hS, H⟩ := hI
  rw [x2] at H
  (try dsimp only at H)
  refine EW.at ?_ a ha
  clear ha a
  refine EW.cdP' (m2) (by kernel_rfl) (by kernel_rfl) (fun n3 => ?_) (fun n3 => ?_)
  ·rw [if_pos n3] at H
   refine EW.sq (by kernel_rfl) ?_
   refine EW.rg (by kernel_rfl) ?_
   refine EL.quick 1 [12] [(12, .bool (true))] (by kernel_rfl) ?_
   refine EL.done (by kernel_rfl) ?_
   refine EQ.code ?_
   refine EW.ret (by kernel_rfl) ?_
   refine EQ.ret ?_
   obtain rfl := Option.some.inj H
   exact EQ.leave (.bool (true)) (by kernel_rfl) ⟨_, rfl, rfl, (hS.re [] [] rfl (sub_self))⟩
  rw [if_neg n3] at H
  refine EW.skip (by kernel_rfl) ?_
  refine EQ.code ?_
  refine EW.sq (by kernel_rfl) ?_
  refine EW.rg (by kernel_rfl) ?_
  refine EL.quick 1 [0, 2, 3, 4, 5, 37] [(0, sv A14 C15 l13), (2, ig a19), (3, ig a20), (4, sv A22 C23 l21), (5, ia a24), (37, sv A17 C18 l16)] (by kernel_rfl) ?_
  have hS : St B _ (os) (Ro.sl kS50 A17 C18 l16 :: Ro.sl kS28 A14 C15 l13 :: Ro.sl (Kd.int .i64) A22 C23 l21 :: rs) := hS.re [] [] rfl (sub_cons 1 rfl (sub_cons 0 rfl (sub_tail (sub_tail (sub_self)))))
  obtain ⟨a6, v4, H⟩ := b1_out H
  have hq := confidantlaw23_some.calls v4 hS
  refine EL.of (EO.callD 12 [sv A17 C18 l16] _ 38 (by kernel_rfl) (by kernel_rfl) (by kernel_rfl) hq ?_)
  rintro v w ⟨a4, a5, rfl, hS⟩
  refine EL.quick 1 [0, 2, 3, 4, 5, 13] [(0, sv A14 C15 l13), (2, ig a19), (3, ig a20), (4, sv A22 C23 l21), (5, ia a24), (13, sv a4 a5 a6)] (by kernel_rfl) ?_
  refine EL.done (by kernel_rfl) ?_
  refine EQ.code ?_
  refine EW.sq (by kernel_rfl) ?_
  refine EW.rg (by kernel_rfl) ?_
  refine EL.quick 1 [0, 2, 3, 4, 5, 13, 39] [(0, sv A14 C15 l13), (2, ig a19), (3, ig a20), (4, sv A22 C23 l21), (5, ia a24), (13, sv a4 a5 a6), (39, sv a4 a5 a6)] (by kernel_rfl) ?_
  have hS := St.nilO hS 28 kS28
  obtain ⟨v0, H⟩ := ite_in H
  obtain ⟨a0, x8, H⟩ := lt_out H
  refine EL.of (EO.append hS 22 22 28 48 0 kS28 none 0 ([] : List S28) rfl a4 a5 a6 (Rd.own 1 28 rfl) a0 x8 (fun b9 b1 => Ass.own 28 kS28 b9 b1 a0 :: Ass.own 28 kS28 a4 a5 a6 :: os) 40 (by kernel_rfl) (by kernel_rfl) (by kernel_rfl) (by kernel_rfl) v0 (fun _ _ => rfl) ?_)
  intro b9 b1 w hS
  refine EL.quick 1 [0, 2, 3, 4, 5, 13, 14] [(0, sv A14 C15 l13), (2, ig a19), (3, ig a20), (4, sv A22 C23 l21), (5, ia a24), (13, sv a4 a5 a6), (14, sv b9 b1 a0)] (by kernel_rfl) ?_
  refine EL.done (by kernel_rfl) ?_
  refine EQ.code ?_
  obtain ⟨y1, x3, H⟩ := lt_out H
  refine EW.ct (fun a w => ∃ b4 : List S28, ∃ b5 : Option Addr, ∃ b6 : Nat, Sat 187 [(0, sv A14 C15 l13), (4, sv A22 C23 l21), (13, sv a4 a5 a6), (14, sv b5 b6 b4)] a ∧ St B w (Ass.own 28 kS28 b5 b6 b4 :: Ass.own 28 kS28 a4 a5 a6 :: os) (Ro.sl kS50 A17 C18 l16 :: Ro.sl kS28 A14 C15 l13 :: Ro.sl (Kd.int .i64) A22 C23 l21 :: rs) ∧ y1 b4 = some d0) (by kernel_rfl) ?_ (fun a w hI => ?_)
  ·refine EW.sq (by kernel_rfl) ?_
   refine EW.rg (by kernel_rfl) ?_
   refine EL.quick 3 [0, 2, 3, 4, 5, 13, 14, 43] [(0, sv A14 C15 l13), (2, ig a19), (3, ig a20), (4, sv A22 C23 l21), (5, ia a24), (13, sv a4 a5 a6), (14, sv b9 b1 a0), (43, .bool (decide ((a0.length : Int) > 0)))] (by kernel_rfl) ?_
   refine EL.done (by kernel_rfl) ?_
   refine EQ.code ?_
   refine EW.cdP ((a0.length : Int) > 0) (by kernel_rfl) (by kernel_rfl) (fun n4 => ?_) (fun n4 => ?_)
   ·rw [if_pos n4] at H
    refine EW.sq (by kernel_rfl) ?_
    refine EW.rg (by kernel_rfl) ?_
    refine EL.quick 4 [0, 3, 4, 5, 13, 14, 45, 47] [(0, sv A14 C15 l13), (3, ig a20), (4, sv A22 C23 l21), (5, ia a24), (13, sv a4 a5 a6), (14, sv b9 b1 a0), (45, ia (IntKind.i64.wrap a19)), (47, ia (a0.length : Int))] (by kernel_rfl) ?_
    obtain ⟨v1, H⟩ := ite_out H
    refine EL.of (EO.Y (YO.div .rem .i64 (IntKind.i64.wrap a19) (a0.length : Int) (Int.tmod (IntKind.i64.wrap a19) (a0.length : Int)) 48 (by kernel_rfl) (by kernel_rfl) (by kernel_rfl) v1 (by first | exact .inl ⟨rfl, rfl⟩ | exact .inr ⟨rfl, rfl⟩)) ?_)
    refine EL.quick 1 [0, 3, 4, 5, 13, 14, 15] [(0, sv A14 C15 l13), (3, ig a20), (4, sv A22 C23 l21), (5, ia a24), (13, sv a4 a5 a6), (14, sv b9 b1 a0), (15, ia (Int.tmod (IntKind.i64.wrap a19) (a0.length : Int)))] (by kernel_rfl) ?_
    refine EL.done (by kernel_rfl) ?_
    refine EQ.code ?_
    refine EW.sq (by kernel_rfl) ?_
    refine EW.rg (by kernel_rfl) ?_
    refine EL.quick 2 [0, 4, 5, 13, 14, 15, 50] [(0, sv A14 C15 l13), (4, sv A22 C23 l21), (5, ia a24), (13, sv a4 a5 a6), (14, sv b9 b1 a0), (15, ia (Int.tmod (IntKind.i64.wrap a19) (a0.length : Int))), (50, ig (Int.tmod a20 5))] (by kernel_rfl) ?_
    refine EL.done (by kernel_rfl) ?_
    refine EQ.code ?_
    refine EW.bl 0 (by kernel_rfl) ?_
    refine EW.sq (by kernel_rfl) ?_
    refine EW.rg (by kernel_rfl) ?_
    refine EL.quick 2 [0, 4, 5, 13, 14, 15, 50, 57] [(0, sv A14 C15 l13), (4, sv A22 C23 l21), (5, ia a24), (13, sv a4 a5 a6), (14, sv b9 b1 a0), (15, ia (Int.tmod (IntKind.i64.wrap a19) (a0.length : Int))), (50, ig (Int.tmod a20 5)), (57, .bool (decide ((Int.tmod a20 5) = 0)))] (by kernel_rfl) ?_
    refine EL.done (by kernel_rfl) ?_
    refine EQ.code ?_
    refine EW.cdP ((Int.tmod a20 5) = 0) (by kernel_rfl) (by kernel_rfl) (fun n5 => ?_) (fun n5 => ?_)
    ·rw [if_pos n5] at H
     refine EW.rg (by kernel_rfl) ?_
     refine EL.quick 3 [0, 4, 13, 14, 59, 60, 61] [(0, sv A14 C15 l13), (4, sv A22 C23 l21), (13, sv a4 a5 a6), (14, sv b9 b1 a0), (59, sv b9 b1 a0), (60, ia (Int.tmod (IntKind.i64.wrap a19) (a0.length : Int))), (61, ia a24)] (by kernel_rfl) ?_
     obtain ⟨n6, H⟩ := ite_in H
     obtain ⟨n7, H⟩ := ite_in H
     obtain ⟨e1, rfl⟩ := St.rd_some hS (Rd.own 0 28 rfl) n6 n7
     refine EL.of (EO.Y (YO.idx 22 7 e1 a0.length b1 .i64 (Int.tmod (IntKind.i64.wrap a19) (a0.length : Int)) 62 (by kernel_rfl) (by kernel_rfl) (by kernel_rfl) (by kernel_rfl) n6 n7) ?_)
     refine EL.quick 1 [0, 4, 13, 14, 61, 63] [(0, sv A14 C15 l13), (4, sv A22 C23 l21), (13, sv a4 a5 a6), (14, sv (some e1) b1 a0), (61, ia a24), (63, .pointer (some ((e1.add ((Int.tmod (IntKind.i64.wrap a19) (a0.length : Int)).toNat * 7)).add 0)))] (by kernel_rfl) ?_
     obtain ⟨i1, t8, H⟩ := lt_out H
     refine EL.of (EO.storeEl hS 0 kS28 28 e1 b1 a0 rfl (Int.tmod (IntKind.i64.wrap a19) (a0.length : Int)) n6 n7 zS28 3 7 0 rfl (ia a24) ({(a0.getD (Int.tmod (IntKind.i64.wrap a19) (a0.length : Int)).toNat zS28) with f0 := a24} : S28) i1 t8 (Ass.own 28 kS28 (some e1) b1 i1 :: Ass.own 28 kS28 a4 a5 a6 :: os) (by kernel_rfl) (by kernel_rfl) (by kernel_rfl) (by kernel_rfl) (by kernel_rfl) (by kernel_rfl) (fun w G vs hr h => (by have e := encS28_of _ _ _ _ h; subst e; exact ⟨[ia a24], [ia ((a0.getD (Int.tmod (IntKind.i64.wrap a19) (a0.length : Int)).toNat zS28).f1), ia ((a0.getD (Int.tmod (IntKind.i64.wrap a19) (a0.length : Int)).toNat zS28).f2), ia ((a0.getD (Int.tmod (IntKind.i64.wrap a19) (a0.length : Int)).toNat zS28).f3), ib ((a0.getD (Int.tmod (IntKind.i64.wrap a19) (a0.length : Int)).toNat zS28).f4), ib ((a0.getD (Int.tmod (IntKind.i64.wrap a19) (a0.length : Int)).toNat zS28).f5), ib ((a0.getD (Int.tmod (IntKind.i64.wrap a19) (a0.length : Int)).toNat zS28).f6)], rfl, rfl, ⟨[ia ((a0.getD (Int.tmod (IntKind.i64.wrap a19) (a0.length : Int)).toNat zS28).f1)], [ia ((a0.getD (Int.tmod (IntKind.i64.wrap a19) (a0.length : Int)).toNat zS28).f2), ia ((a0.getD (Int.tmod (IntKind.i64.wrap a19) (a0.length : Int)).toNat zS28).f3), ib ((a0.getD (Int.tmod (IntKind.i64.wrap a19) (a0.length : Int)).toNat zS28).f4), ib ((a0.getD (Int.tmod (IntKind.i64.wrap a19) (a0.length : Int)).toNat zS28).f5), ib ((a0.getD (Int.tmod (IntKind.i64.wrap a19) (a0.length : Int)).toNat zS28).f6)], rfl, rfl, ⟨[ia ((a0.getD (Int.tmod (IntKind.i64.wrap a19) (a0.length : Int)).toNat zS28).f2)], [ia ((a0.getD (Int.tmod (IntKind.i64.wrap a19) (a0.length : Int)).toNat zS28).f3), ib ((a0.getD (Int.tmod (IntKind.i64.wrap a19) (a0.length : Int)).toNat zS28).f4), ib ((a0.getD (Int.tmod (IntKind.i64.wrap a19) (a0.length : Int)).toNat zS28).f5), ib ((a0.getD (Int.tmod (IntKind.i64.wrap a19) (a0.length : Int)).toNat zS28).f6)], rfl, rfl, ⟨[ia ((a0.getD (Int.tmod (IntKind.i64.wrap a19) (a0.length : Int)).toNat zS28).f3)], [ib ((a0.getD (Int.tmod (IntKind.i64.wrap a19) (a0.length : Int)).toNat zS28).f4), ib ((a0.getD (Int.tmod (IntKind.i64.wrap a19) (a0.length : Int)).toNat zS28).f5), ib ((a0.getD (Int.tmod (IntKind.i64.wrap a19) (a0.length : Int)).toNat zS28).f6)], rfl, rfl, ⟨[ib ((a0.getD (Int.tmod (IntKind.i64.wrap a19) (a0.length : Int)).toNat zS28).f4)], [ib ((a0.getD (Int.tmod (IntKind.i64.wrap a19) (a0.length : Int)).toNat zS28).f5), ib ((a0.getD (Int.tmod (IntKind.i64.wrap a19) (a0.length : Int)).toNat zS28).f6)], rfl, rfl, ⟨[ib ((a0.getD (Int.tmod (IntKind.i64.wrap a19) (a0.length : Int)).toNat zS28).f5)], [ib ((a0.getD (Int.tmod (IntKind.i64.wrap a19) (a0.length : Int)).toNat zS28).f6)], rfl, rfl, ⟨[ib ((a0.getD (Int.tmod (IntKind.i64.wrap a19) (a0.length : Int)).toNat zS28).f6)], [], rfl, rfl, rfl⟩⟩⟩⟩⟩⟩⟩)) rfl ?_)
     intro w hS
     refine EL.keep [0, 4, 13, 14] [(0, sv A14 C15 l13), (4, sv A22 C23 l21), (13, sv a4 a5 a6), (14, sv (some e1) b1 a0)] (by kernel_rfl) ?_
     refine EL.as' [(0, sv A14 C15 l13), (4, sv A22 C23 l21), (13, sv a4 a5 a6), (14, sv (some e1) b1 i1)] (by simp only [encS28, sv, t8, List.length_set]) ?_
     refine EL.done (by kernel_rfl) ?_
     refine EQ.pop ?_
     refine EQ.to ?_
     refine EQ.keep [0, 4, 13, 14] [(0, sv A14 C15 l13), (4, sv A22 C23 l21), (13, sv a4 a5 a6), (14, sv (some e1) b1 i1)] (by kernel_rfl) ?_
     exact fun a ha => ⟨i1, (some e1), b1, ha, (hS.re [1, 1] [] rfl (sub_cons 0 rfl (sub_cons 1 rfl (sub_cons 2 rfl (sub_tail (sub_tail (sub_tail (sub_self)))))))), H⟩
    rw [if_neg n5] at H
    refine EW.sq (by kernel_rfl) ?_
    refine EW.rg (by kernel_rfl) ?_
    refine EL.quick 2 [0, 4, 5, 13, 14, 15, 50, 64] [(0, sv A14 C15 l13), (4, sv A22 C23 l21), (5, ia a24), (13, sv a4 a5 a6), (14, sv b9 b1 a0), (15, ia (Int.tmod (IntKind.i64.wrap a19) (a0.length : Int))), (50, ig (Int.tmod a20 5)), (64, .bool (decide ((Int.tmod a20 5) = 1)))] (by kernel_rfl) ?_
    refine EL.done (by kernel_rfl) ?_
    refine EQ.code ?_
    refine EW.cdP ((Int.tmod a20 5) = 1) (by kernel_rfl) (by kernel_rfl) (fun n8 => ?_) (fun n8 => ?_)
    ·rw [if_pos n8] at H
     refine EW.rg (by kernel_rfl) ?_
     refine EL.quick 3 [0, 4, 13, 14, 66, 67, 68] [(0, sv A14 C15 l13), (4, sv A22 C23 l21), (13, sv a4 a5 a6), (14, sv b9 b1 a0), (66, sv b9 b1 a0), (67, ia (Int.tmod (IntKind.i64.wrap a19) (a0.length : Int))), (68, ia a24)] (by kernel_rfl) ?_
     obtain ⟨n9, H⟩ := ite_in H
     obtain ⟨o0, H⟩ := ite_in H
     obtain ⟨e2, rfl⟩ := St.rd_some hS (Rd.own 0 28 rfl) n9 o0
     refine EL.of (EO.Y (YO.idx 22 7 e2 a0.length b1 .i64 (Int.tmod (IntKind.i64.wrap a19) (a0.length : Int)) 69 (by kernel_rfl) (by kernel_rfl) (by kernel_rfl) (by kernel_rfl) n9 o0) ?_)
     refine EL.quick 1 [0, 4, 13, 14, 68, 70] [(0, sv A14 C15 l13), (4, sv A22 C23 l21), (13, sv a4 a5 a6), (14, sv (some e2) b1 a0), (68, ia a24), (70, .pointer (some ((e2.add ((Int.tmod (IntKind.i64.wrap a19) (a0.length : Int)).toNat * 7)).add 1)))] (by kernel_rfl) ?_
     obtain ⟨i2, t9, H⟩ := lt_out H
     refine EL.of (EO.storeEl hS 0 kS28 28 e2 b1 a0 rfl (Int.tmod (IntKind.i64.wrap a19) (a0.length : Int)) n9 o0 zS28 3 7 1 rfl (ia a24) ({(a0.getD (Int.tmod (IntKind.i64.wrap a19) (a0.length : Int)).toNat zS28) with f1 := a24} : S28) i2 t9 (Ass.own 28 kS28 (some e2) b1 i2 :: Ass.own 28 kS28 a4 a5 a6 :: os) (by kernel_rfl) (by kernel_rfl) (by kernel_rfl) (by kernel_rfl) (by kernel_rfl) (by kernel_rfl) (fun w G vs hr h => (by have e := encS28_of _ _ _ _ h; subst e; exact ⟨[ia ((a0.getD (Int.tmod (IntKind.i64.wrap a19) (a0.length : Int)).toNat zS28).f0)], [ia a24, ia ((a0.getD (Int.tmod (IntKind.i64.wrap a19) (a0.length : Int)).toNat zS28).f2), ia ((a0.getD (Int.tmod (IntKind.i64.wrap a19) (a0.length : Int)).toNat zS28).f3), ib ((a0.getD (Int.tmod (IntKind.i64.wrap a19) (a0.length : Int)).toNat zS28).f4), ib ((a0.getD (Int.tmod (IntKind.i64.wrap a19) (a0.length : Int)).toNat zS28).f5), ib ((a0.getD (Int.tmod (IntKind.i64.wrap a19) (a0.length : Int)).toNat zS28).f6)], rfl, rfl, ⟨[ia a24], [ia ((a0.getD (Int.tmod (IntKind.i64.wrap a19) (a0.length : Int)).toNat zS28).f2), ia ((a0.getD (Int.tmod (IntKind.i64.wrap a19) (a0.length : Int)).toNat zS28).f3), ib ((a0.getD (Int.tmod (IntKind.i64.wrap a19) (a0.length : Int)).toNat zS28).f4), ib ((a0.getD (Int.tmod (IntKind.i64.wrap a19) (a0.length : Int)).toNat zS28).f5), ib ((a0.getD (Int.tmod (IntKind.i64.wrap a19) (a0.length : Int)).toNat zS28).f6)], rfl, rfl, ⟨[ia ((a0.getD (Int.tmod (IntKind.i64.wrap a19) (a0.length : Int)).toNat zS28).f2)], [ia ((a0.getD (Int.tmod (IntKind.i64.wrap a19) (a0.length : Int)).toNat zS28).f3), ib ((a0.getD (Int.tmod (IntKind.i64.wrap a19) (a0.length : Int)).toNat zS28).f4), ib ((a0.getD (Int.tmod (IntKind.i64.wrap a19) (a0.length : Int)).toNat zS28).f5), ib ((a0.getD (Int.tmod (IntKind.i64.wrap a19) (a0.length : Int)).toNat zS28).f6)], rfl, rfl, ⟨[ia ((a0.getD (Int.tmod (IntKind.i64.wrap a19) (a0.length : Int)).toNat zS28).f3)], [ib ((a0.getD (Int.tmod (IntKind.i64.wrap a19) (a0.length : Int)).toNat zS28).f4), ib ((a0.getD (Int.tmod (IntKind.i64.wrap a19) (a0.length : Int)).toNat zS28).f5), ib ((a0.getD (Int.tmod (IntKind.i64.wrap a19) (a0.length : Int)).toNat zS28).f6)], rfl, rfl, ⟨[ib ((a0.getD (Int.tmod (IntKind.i64.wrap a19) (a0.length : Int)).toNat zS28).f4)], [ib ((a0.getD (Int.tmod (IntKind.i64.wrap a19) (a0.length : Int)).toNat zS28).f5), ib ((a0.getD (Int.tmod (IntKind.i64.wrap a19) (a0.length : Int)).toNat zS28).f6)], rfl, rfl, ⟨[ib ((a0.getD (Int.tmod (IntKind.i64.wrap a19) (a0.length : Int)).toNat zS28).f5)], [ib ((a0.getD (Int.tmod (IntKind.i64.wrap a19) (a0.length : Int)).toNat zS28).f6)], rfl, rfl, ⟨[ib ((a0.getD (Int.tmod (IntKind.i64.wrap a19) (a0.length : Int)).toNat zS28).f6)], [], rfl, rfl, rfl⟩⟩⟩⟩⟩⟩⟩)) rfl ?_)
     intro w hS
     refine EL.keep [0, 4, 13, 14] [(0, sv A14 C15 l13), (4, sv A22 C23 l21), (13, sv a4 a5 a6), (14, sv (some e2) b1 a0)] (by kernel_rfl) ?_
     refine EL.as' [(0, sv A14 C15 l13), (4, sv A22 C23 l21), (13, sv a4 a5 a6), (14, sv (some e2) b1 i2)] (by simp only [encS28, sv, t9, List.length_set]) ?_
     refine EL.done (by kernel_rfl) ?_
     refine EQ.pop ?_
     refine EQ.to ?_
     refine EQ.keep [0, 4, 13, 14] [(0, sv A14 C15 l13), (4, sv A22 C23 l21), (13, sv a4 a5 a6), (14, sv (some e2) b1 i2)] (by kernel_rfl) ?_
     exact fun a ha => ⟨i2, (some e2), b1, ha, (hS.re [1, 1] [] rfl (sub_cons 0 rfl (sub_cons 1 rfl (sub_cons 2 rfl (sub_tail (sub_tail (sub_tail (sub_self)))))))), H⟩
    rw [if_neg n8] at H
    refine EW.sq (by kernel_rfl) ?_
    refine EW.rg (by kernel_rfl) ?_
    refine EL.quick 2 [0, 4, 5, 13, 14, 15, 50, 71] [(0, sv A14 C15 l13), (4, sv A22 C23 l21), (5, ia a24), (13, sv a4 a5 a6), (14, sv b9 b1 a0), (15, ia (Int.tmod (IntKind.i64.wrap a19) (a0.length : Int))), (50, ig (Int.tmod a20 5)), (71, .bool (decide ((Int.tmod a20 5) = 2)))] (by kernel_rfl) ?_
    refine EL.done (by kernel_rfl) ?_
    refine EQ.code ?_
    refine EW.cdP ((Int.tmod a20 5) = 2) (by kernel_rfl) (by kernel_rfl) (fun o1 => ?_) (fun o1 => ?_)
    ·rw [if_pos o1] at H
     refine EW.rg (by kernel_rfl) ?_
     refine EL.quick 3 [0, 4, 13, 14, 73, 74, 75] [(0, sv A14 C15 l13), (4, sv A22 C23 l21), (13, sv a4 a5 a6), (14, sv b9 b1 a0), (73, sv b9 b1 a0), (74, ia (Int.tmod (IntKind.i64.wrap a19) (a0.length : Int))), (75, ia a24)] (by kernel_rfl) ?_
     obtain ⟨o2, H⟩ := ite_in H
     obtain ⟨o3, H⟩ := ite_in H
     obtain ⟨e3, rfl⟩ := St.rd_some hS (Rd.own 0 28 rfl) o2 o3
     refine EL.of (EO.Y (YO.idx 22 7 e3 a0.length b1 .i64 (Int.tmod (IntKind.i64.wrap a19) (a0.length : Int)) 76 (by kernel_rfl) (by kernel_rfl) (by kernel_rfl) (by kernel_rfl) o2 o3) ?_)
     refine EL.quick 1 [0, 4, 13, 14, 75, 77] [(0, sv A14 C15 l13), (4, sv A22 C23 l21), (13, sv a4 a5 a6), (14, sv (some e3) b1 a0), (75, ia a24), (77, .pointer (some ((e3.add ((Int.tmod (IntKind.i64.wrap a19) (a0.length : Int)).toNat * 7)).add 2)))] (by kernel_rfl) ?_
     obtain ⟨i3, u0, H⟩ := lt_out H
     refine EL.of (EO.storeEl hS 0 kS28 28 e3 b1 a0 rfl (Int.tmod (IntKind.i64.wrap a19) (a0.length : Int)) o2 o3 zS28 3 7 2 rfl (ia a24) ({(a0.getD (Int.tmod (IntKind.i64.wrap a19) (a0.length : Int)).toNat zS28) with f2 := a24} : S28) i3 u0 (Ass.own 28 kS28 (some e3) b1 i3 :: Ass.own 28 kS28 a4 a5 a6 :: os) (by kernel_rfl) (by kernel_rfl) (by kernel_rfl) (by kernel_rfl) (by kernel_rfl) (by kernel_rfl) (fun w G vs hr h => (by have e := encS28_of _ _ _ _ h; subst e; exact ⟨[ia ((a0.getD (Int.tmod (IntKind.i64.wrap a19) (a0.length : Int)).toNat zS28).f0)], [ia ((a0.getD (Int.tmod (IntKind.i64.wrap a19) (a0.length : Int)).toNat zS28).f1), ia a24, ia ((a0.getD (Int.tmod (IntKind.i64.wrap a19) (a0.length : Int)).toNat zS28).f3), ib ((a0.getD (Int.tmod (IntKind.i64.wrap a19) (a0.length : Int)).toNat zS28).f4), ib ((a0.getD (Int.tmod (IntKind.i64.wrap a19) (a0.length : Int)).toNat zS28).f5), ib ((a0.getD (Int.tmod (IntKind.i64.wrap a19) (a0.length : Int)).toNat zS28).f6)], rfl, rfl, ⟨[ia ((a0.getD (Int.tmod (IntKind.i64.wrap a19) (a0.length : Int)).toNat zS28).f1)], [ia a24, ia ((a0.getD (Int.tmod (IntKind.i64.wrap a19) (a0.length : Int)).toNat zS28).f3), ib ((a0.getD (Int.tmod (IntKind.i64.wrap a19) (a0.length : Int)).toNat zS28).f4), ib ((a0.getD (Int.tmod (IntKind.i64.wrap a19) (a0.length : Int)).toNat zS28).f5), ib ((a0.getD (Int.tmod (IntKind.i64.wrap a19) (a0.length : Int)).toNat zS28).f6)], rfl, rfl, ⟨[ia a24], [ia ((a0.getD (Int.tmod (IntKind.i64.wrap a19) (a0.length : Int)).toNat zS28).f3), ib ((a0.getD (Int.tmod (IntKind.i64.wrap a19) (a0.length : Int)).toNat zS28).f4), ib ((a0.getD (Int.tmod (IntKind.i64.wrap a19) (a0.length : Int)).toNat zS28).f5), ib ((a0.getD (Int.tmod (IntKind.i64.wrap a19) (a0.length : Int)).toNat zS28).f6)], rfl, rfl, ⟨[ia ((a0.getD (Int.tmod (IntKind.i64.wrap a19) (a0.length : Int)).toNat zS28).f3)], [ib ((a0.getD (Int.tmod (IntKind.i64.wrap a19) (a0.length : Int)).toNat zS28).f4), ib ((a0.getD (Int.tmod (IntKind.i64.wrap a19) (a0.length : Int)).toNat zS28).f5), ib ((a0.getD (Int.tmod (IntKind.i64.wrap a19) (a0.length : Int)).toNat zS28).f6)], rfl, rfl, ⟨[ib ((a0.getD (Int.tmod (IntKind.i64.wrap a19) (a0.length : Int)).toNat zS28).f4)], [ib ((a0.getD (Int.tmod (IntKind.i64.wrap a19) (a0.length : Int)).toNat zS28).f5), ib ((a0.getD (Int.tmod (IntKind.i64.wrap a19) (a0.length : Int)).toNat zS28).f6)], rfl, rfl, ⟨[ib ((a0.getD (Int.tmod (IntKind.i64.wrap a19) (a0.length : Int)).toNat zS28).f5)], [ib ((a0.getD (Int.tmod (IntKind.i64.wrap a19) (a0.length : Int)).toNat zS28).f6)], rfl, rfl, ⟨[ib ((a0.getD (Int.tmod (IntKind.i64.wrap a19) (a0.length : Int)).toNat zS28).f6)], [], rfl, rfl, rfl⟩⟩⟩⟩⟩⟩⟩)) rfl ?_)
     intro w hS
     refine EL.keep [0, 4, 13, 14] [(0, sv A14 C15 l13), (4, sv A22 C23 l21), (13, sv a4 a5 a6), (14, sv (some e3) b1 a0)] (by kernel_rfl) ?_
     refine EL.as' [(0, sv A14 C15 l13), (4, sv A22 C23 l21), (13, sv a4 a5 a6), (14, sv (some e3) b1 i3)] (by simp only [encS28, sv, u0, List.length_set]) ?_
     refine EL.done (by kernel_rfl) ?_
     refine EQ.pop ?_
     refine EQ.to ?_
     refine EQ.keep [0, 4, 13, 14] [(0, sv A14 C15 l13), (4, sv A22 C23 l21), (13, sv a4 a5 a6), (14, sv (some e3) b1 i3)] (by kernel_rfl) ?_
     exact fun a ha => ⟨i3, (some e3), b1, ha, (hS.re [1, 1] [] rfl (sub_cons 0 rfl (sub_cons 1 rfl (sub_cons 2 rfl (sub_tail (sub_tail (sub_tail (sub_self)))))))), H⟩
    rw [if_neg o1] at H
    refine EW.sq (by kernel_rfl) ?_
    refine EW.rg (by kernel_rfl) ?_
    refine EL.quick 2 [0, 4, 5, 13, 14, 15, 78] [(0, sv A14 C15 l13), (4, sv A22 C23 l21), (5, ia a24), (13, sv a4 a5 a6), (14, sv b9 b1 a0), (15, ia (Int.tmod (IntKind.i64.wrap a19) (a0.length : Int))), (78, .bool (decide ((Int.tmod a20 5) = 3)))] (by kernel_rfl) ?_
    refine EL.done (by kernel_rfl) ?_
    refine EQ.code ?_
    refine EW.cdP ((Int.tmod a20 5) = 3) (by kernel_rfl) (by kernel_rfl) (fun o4 => ?_) (fun o4 => ?_)
    ·rw [if_pos o4] at H
     refine EW.rg (by kernel_rfl) ?_
     refine EL.quick 3 [0, 4, 13, 14, 80, 81, 82] [(0, sv A14 C15 l13), (4, sv A22 C23 l21), (13, sv a4 a5 a6), (14, sv b9 b1 a0), (80, sv b9 b1 a0), (81, ia (Int.tmod (IntKind.i64.wrap a19) (a0.length : Int))), (82, ia a24)] (by kernel_rfl) ?_
     obtain ⟨o5, H⟩ := ite_in H
     obtain ⟨o6, H⟩ := ite_in H
     obtain ⟨e4, rfl⟩ := St.rd_some hS (Rd.own 0 28 rfl) o5 o6
     refine EL.of (EO.Y (YO.idx 22 7 e4 a0.length b1 .i64 (Int.tmod (IntKind.i64.wrap a19) (a0.length : Int)) 83 (by kernel_rfl) (by kernel_rfl) (by kernel_rfl) (by kernel_rfl) o5 o6) ?_)
     refine EL.quick 1 [0, 4, 13, 14, 82, 84] [(0, sv A14 C15 l13), (4, sv A22 C23 l21), (13, sv a4 a5 a6), (14, sv (some e4) b1 a0), (82, ia a24), (84, .pointer (some ((e4.add ((Int.tmod (IntKind.i64.wrap a19) (a0.length : Int)).toNat * 7)).add 3)))] (by kernel_rfl) ?_
     obtain ⟨i4, u1, H⟩ := lt_out H
     refine EL.of (EO.storeEl hS 0 kS28 28 e4 b1 a0 rfl (Int.tmod (IntKind.i64.wrap a19) (a0.length : Int)) o5 o6 zS28 3 7 3 rfl (ia a24) ({(a0.getD (Int.tmod (IntKind.i64.wrap a19) (a0.length : Int)).toNat zS28) with f3 := a24} : S28) i4 u1 (Ass.own 28 kS28 (some e4) b1 i4 :: Ass.own 28 kS28 a4 a5 a6 :: os) (by kernel_rfl) (by kernel_rfl) (by kernel_rfl) (by kernel_rfl) (by kernel_rfl) (by kernel_rfl) (fun w G vs hr h => (by have e := encS28_of _ _ _ _ h; subst e; exact ⟨[ia ((a0.getD (Int.tmod (IntKind.i64.wrap a19) (a0.length : Int)).toNat zS28).f0)], [ia ((a0.getD (Int.tmod (IntKind.i64.wrap a19) (a0.length : Int)).toNat zS28).f1), ia ((a0.getD (Int.tmod (IntKind.i64.wrap a19) (a0.length : Int)).toNat zS28).f2), ia a24, ib ((a0.getD (Int.tmod (IntKind.i64.wrap a19) (a0.length : Int)).toNat zS28).f4), ib ((a0.getD (Int.tmod (IntKind.i64.wrap a19) (a0.length : Int)).toNat zS28).f5), ib ((a0.getD (Int.tmod (IntKind.i64.wrap a19) (a0.length : Int)).toNat zS28).f6)], rfl, rfl, ⟨[ia ((a0.getD (Int.tmod (IntKind.i64.wrap a19) (a0.length : Int)).toNat zS28).f1)], [ia ((a0.getD (Int.tmod (IntKind.i64.wrap a19) (a0.length : Int)).toNat zS28).f2), ia a24, ib ((a0.getD (Int.tmod (IntKind.i64.wrap a19) (a0.length : Int)).toNat zS28).f4), ib ((a0.getD (Int.tmod (IntKind.i64.wrap a19) (a0.length : Int)).toNat zS28).f5), ib ((a0.getD (Int.tmod (IntKind.i64.wrap a19) (a0.length : Int)).toNat zS28).f6)], rfl, rfl, ⟨[ia ((a0.getD (Int.tmod (IntKind.i64.wrap a19) (a0.length : Int)).toNat zS28).f2)], [ia a24, ib ((a0.getD (Int.tmod (IntKind.i64.wrap a19) (a0.length : Int)).toNat zS28).f4), ib ((a0.getD (Int.tmod (IntKind.i64.wrap a19) (a0.length : Int)).toNat zS28).f5), ib ((a0.getD (Int.tmod (IntKind.i64.wrap a19) (a0.length : Int)).toNat zS28).f6)], rfl, rfl, ⟨[ia a24], [ib ((a0.getD (Int.tmod (IntKind.i64.wrap a19) (a0.length : Int)).toNat zS28).f4), ib ((a0.getD (Int.tmod (IntKind.i64.wrap a19) (a0.length : Int)).toNat zS28).f5), ib ((a0.getD (Int.tmod (IntKind.i64.wrap a19) (a0.length : Int)).toNat zS28).f6)], rfl, rfl, ⟨[ib ((a0.getD (Int.tmod (IntKind.i64.wrap a19) (a0.length : Int)).toNat zS28).f4)], [ib ((a0.getD (Int.tmod (IntKind.i64.wrap a19) (a0.length : Int)).toNat zS28).f5), ib ((a0.getD (Int.tmod (IntKind.i64.wrap a19) (a0.length : Int)).toNat zS28).f6)], rfl, rfl, ⟨[ib ((a0.getD (Int.tmod (IntKind.i64.wrap a19) (a0.length : Int)).toNat zS28).f5)], [ib ((a0.getD (Int.tmod (IntKind.i64.wrap a19) (a0.length : Int)).toNat zS28).f6)], rfl, rfl, ⟨[ib ((a0.getD (Int.tmod (IntKind.i64.wrap a19) (a0.length : Int)).toNat zS28).f6)], [], rfl, rfl, rfl⟩⟩⟩⟩⟩⟩⟩)) rfl ?_)
     intro w hS
     refine EL.keep [0, 4, 13, 14] [(0, sv A14 C15 l13), (4, sv A22 C23 l21), (13, sv a4 a5 a6), (14, sv (some e4) b1 a0)] (by kernel_rfl) ?_
     refine EL.as' [(0, sv A14 C15 l13), (4, sv A22 C23 l21), (13, sv a4 a5 a6), (14, sv (some e4) b1 i4)] (by simp only [encS28, sv, u1, List.length_set]) ?_
     refine EL.done (by kernel_rfl) ?_
     refine EQ.pop ?_
     refine EQ.to ?_
     refine EQ.keep [0, 4, 13, 14] [(0, sv A14 C15 l13), (4, sv A22 C23 l21), (13, sv a4 a5 a6), (14, sv (some e4) b1 i4)] (by kernel_rfl) ?_
     exact fun a ha => ⟨i4, (some e4), b1, ha, (hS.re [1, 1] [] rfl (sub_cons 0 rfl (sub_cons 1 rfl (sub_cons 2 rfl (sub_tail (sub_tail (sub_tail (sub_self)))))))), H⟩
    rw [if_neg o4] at H
    refine EW.rg (by kernel_rfl) ?_
    refine EL.quick 4 [0, 4, 13, 14, 51, 52, 54] [(0, sv A14 C15 l13), (4, sv A22 C23 l21), (13, sv a4 a5 a6), (14, sv b9 b1 a0), (51, sv b9 b1 a0), (52, ia (Int.tmod (IntKind.i64.wrap a19) (a0.length : Int))), (54, ib (IntKind.i32.wrap a24))] (by kernel_rfl) ?_
    obtain ⟨o7, H⟩ := ite_in H
    obtain ⟨o8, H⟩ := ite_in H
    obtain ⟨e5, rfl⟩ := St.rd_some hS (Rd.own 0 28 rfl) o7 o8
    refine EL.of (EO.Y (YO.idx 22 7 e5 a0.length b1 .i64 (Int.tmod (IntKind.i64.wrap a19) (a0.length : Int)) 55 (by kernel_rfl) (by kernel_rfl) (by kernel_rfl) (by kernel_rfl) o7 o8) ?_)
    refine EL.quick 1 [0, 4, 13, 14, 54, 56] [(0, sv A14 C15 l13), (4, sv A22 C23 l21), (13, sv a4 a5 a6), (14, sv (some e5) b1 a0), (54, ib (IntKind.i32.wrap a24)), (56, .pointer (some ((e5.add ((Int.tmod (IntKind.i64.wrap a19) (a0.length : Int)).toNat * 7)).add 4)))] (by kernel_rfl) ?_
    obtain ⟨i5, u2, H⟩ := lt_out H
    refine EL.of (EO.storeEl hS 0 kS28 28 e5 b1 a0 rfl (Int.tmod (IntKind.i64.wrap a19) (a0.length : Int)) o7 o8 zS28 21 7 4 rfl (ib (IntKind.i32.wrap a24)) ({(a0.getD (Int.tmod (IntKind.i64.wrap a19) (a0.length : Int)).toNat zS28) with f4 := IntKind.i32.wrap a24} : S28) i5 u2 (Ass.own 28 kS28 (some e5) b1 i5 :: Ass.own 28 kS28 a4 a5 a6 :: os) (by kernel_rfl) (by kernel_rfl) (by kernel_rfl) (by kernel_rfl) (by kernel_rfl) (by kernel_rfl) (fun w G vs hr h => (by have e := encS28_of _ _ _ _ h; subst e; exact ⟨[ia ((a0.getD (Int.tmod (IntKind.i64.wrap a19) (a0.length : Int)).toNat zS28).f0)], [ia ((a0.getD (Int.tmod (IntKind.i64.wrap a19) (a0.length : Int)).toNat zS28).f1), ia ((a0.getD (Int.tmod (IntKind.i64.wrap a19) (a0.length : Int)).toNat zS28).f2), ia ((a0.getD (Int.tmod (IntKind.i64.wrap a19) (a0.length : Int)).toNat zS28).f3), ib (IntKind.i32.wrap a24), ib ((a0.getD (Int.tmod (IntKind.i64.wrap a19) (a0.length : Int)).toNat zS28).f5), ib ((a0.getD (Int.tmod (IntKind.i64.wrap a19) (a0.length : Int)).toNat zS28).f6)], rfl, rfl, ⟨[ia ((a0.getD (Int.tmod (IntKind.i64.wrap a19) (a0.length : Int)).toNat zS28).f1)], [ia ((a0.getD (Int.tmod (IntKind.i64.wrap a19) (a0.length : Int)).toNat zS28).f2), ia ((a0.getD (Int.tmod (IntKind.i64.wrap a19) (a0.length : Int)).toNat zS28).f3), ib (IntKind.i32.wrap a24), ib ((a0.getD (Int.tmod (IntKind.i64.wrap a19) (a0.length : Int)).toNat zS28).f5), ib ((a0.getD (Int.tmod (IntKind.i64.wrap a19) (a0.length : Int)).toNat zS28).f6)], rfl, rfl, ⟨[ia ((a0.getD (Int.tmod (IntKind.i64.wrap a19) (a0.length : Int)).toNat zS28).f2)], [ia ((a0.getD (Int.tmod (IntKind.i64.wrap a19) (a0.length : Int)).toNat zS28).f3), ib (IntKind.i32.wrap a24), ib ((a0.getD (Int.tmod (IntKind.i64.wrap a19) (a0.length : Int)).toNat zS28).f5), ib ((a0.getD (Int.tmod (IntKind.i64.wrap a19) (a0.length : Int)).toNat zS28).f6)], rfl, rfl, ⟨[ia ((a0.getD (Int.tmod (IntKind.i64.wrap a19) (a0.length : Int)).toNat zS28).f3)], [ib (IntKind.i32.wrap a24), ib ((a0.getD (Int.tmod (IntKind.i64.wrap a19) (a0.length : Int)).toNat zS28).f5), ib ((a0.getD (Int.tmod (IntKind.i64.wrap a19) (a0.length : Int)).toNat zS28).f6)], rfl, rfl, ⟨[ib (IntKind.i32.wrap a24)], [ib ((a0.getD (Int.tmod (IntKind.i64.wrap a19) (a0.length : Int)).toNat zS28).f5), ib ((a0.getD (Int.tmod (IntKind.i64.wrap a19) (a0.length : Int)).toNat zS28).f6)], rfl, rfl, ⟨[ib ((a0.getD (Int.tmod (IntKind.i64.wrap a19) (a0.length : Int)).toNat zS28).f5)], [ib ((a0.getD (Int.tmod (IntKind.i64.wrap a19) (a0.length : Int)).toNat zS28).f6)], rfl, rfl, ⟨[ib ((a0.getD (Int.tmod (IntKind.i64.wrap a19) (a0.length : Int)).toNat zS28).f6)], [], rfl, rfl, rfl⟩⟩⟩⟩⟩⟩⟩)) rfl ?_)
    intro w hS
    refine EL.keep [0, 4, 13, 14] [(0, sv A14 C15 l13), (4, sv A22 C23 l21), (13, sv a4 a5 a6), (14, sv (some e5) b1 a0)] (by kernel_rfl) ?_
    refine EL.as' [(0, sv A14 C15 l13), (4, sv A22 C23 l21), (13, sv a4 a5 a6), (14, sv (some e5) b1 i5)] (by simp only [encS28, sv, u2, List.length_set]) ?_
    refine EL.done (by kernel_rfl) ?_
    refine EQ.pop ?_
    refine EQ.to ?_
    refine EQ.keep [0, 4, 13, 14] [(0, sv A14 C15 l13), (4, sv A22 C23 l21), (13, sv a4 a5 a6), (14, sv (some e5) b1 i5)] (by kernel_rfl) ?_
    exact fun a ha => ⟨i5, (some e5), b1, ha, (hS.re [1, 1] [] rfl (sub_cons 0 rfl (sub_cons 1 rfl (sub_cons 2 rfl (sub_tail (sub_tail (sub_tail (sub_self)))))))), H⟩
   rw [if_neg n4] at H
   refine EW.skip (by kernel_rfl) ?_
   refine EQ.to ?_
   refine EQ.keep [0, 4, 13, 14] [(0, sv A14 C15 l13), (4, sv A22 C23 l21), (13, sv a4 a5 a6), (14, sv b9 b1 a0)] (by kernel_rfl) ?_
   exact fun a ha => ⟨a0, b9, b1, ha, (hS.re [1, 1] [] rfl (sub_cons 0 rfl (sub_cons 1 rfl (sub_cons 2 rfl (sub_tail (sub_tail (sub_tail (sub_self)))))))), H⟩
  obtain ⟨b4, b5, b6, ha, hS, H⟩ := hI
  rw [x3] at H
  (try dsimp only at H)
  refine EW.at ?_ a ha
  clear ha a
  refine EW.sq (by kernel_rfl) ?_
  refine EW.rg (by kernel_rfl) ?_
  refine EL.quick 1 [0, 4, 13, 14, 16] [(0, sv A14 C15 l13), (4, sv A22 C23 l21), (13, sv a4 a5 a6), (14, sv b5 b6 b4), (16, sv none 0 ([] : List Int))] (by kernel_rfl) ?_
  refine EL.done (by kernel_rfl) ?_
  refine EQ.code ?_
  obtain ⟨u5, x4, H⟩ := lt_out H
  refine EW.ct (fun a w => ∃ e9 : List Int, ∃ f7 : Option Addr, ∃ f8 : Nat, Sat 187 [(0, sv A14 C15 l13), (4, sv A22 C23 l21), (13, sv a4 a5 a6), (14, sv b5 b6 b4), (16, sv f7 f8 e9)] a ∧ St B w (Ass.own 28 kS28 b5 b6 b4 :: Ass.own 28 kS28 a4 a5 a6 :: Ass.own 3 (Kd.int .i64) f7 f8 e9 :: os) (Ro.sl kS50 A17 C18 l16 :: Ro.sl kS28 A14 C15 l13 :: Ro.sl (Kd.int .i64) A22 C23 l21 :: rs) ∧ u5 e9 = some d0) (by kernel_rfl) ?_ (fun a w hI => ?_)
  ·refine EW.sq (by kernel_rfl) ?_
   refine EW.rg (by kernel_rfl) ?_
   refine EL.quick 1 [0, 4, 13, 14, 16, 17] [(0, sv A14 C15 l13), (4, sv A22 C23 l21), (13, sv a4 a5 a6), (14, sv b5 b6 b4), (16, sv none 0 ([] : List Int)), (17, ia 0)] (by kernel_rfl) ?_
   refine EL.done (by kernel_rfl) ?_
   refine EQ.code ?_
   refine EW.bl 1 (by kernel_rfl) ?_
   have hS := St.nilO hS 3 (Kd.int .i64)
   refine EW.lp (fun n a w => ∃ d4 : List Int, ∃ c0 : Int, ∃ d5 : Option Addr, ∃ d8 : Nat, Sat 187 [(0, sv A14 C15 l13), (4, sv A22 C23 l21), (13, sv a4 a5 a6), (14, sv b5 b6 b4), (16, sv d5 d8 d4), (17, ia c0)] a ∧ St B w (Ass.own 28 kS28 b5 b6 b4 :: Ass.own 28 kS28 a4 a5 a6 :: Ass.own 3 (Kd.int .i64) d5 d8 d4 :: os) (Ro.sl kS50 A17 C18 l16 :: Ro.sl kS28 A14 C15 l13 :: Ro.sl (Kd.int .i64) A22 C23 l21 :: rs) ∧ confidantlaw23_TraceTells.l0 K l21 u5 n d4 c0 = some d0) K (by kernel_rfl) ?_ (fun n a w hI => ?_)
   ·refine EQ.keep [0, 4, 13, 14, 16, 17] [(0, sv A14 C15 l13), (4, sv A22 C23 l21), (13, sv a4 a5 a6), (14, sv b5 b6 b4), (16, sv none 0 ([] : List Int)), (17, ia 0)] (by kernel_rfl) ?_
    exact fun a ha => ⟨([] : List Int), 0, none, 0, ha, (hS.re [0, 2, 2] [] rfl (sub_cons 0 rfl (sub_cons 1 rfl (sub_cons 2 rfl (sub_tail (sub_tail (sub_tail (sub_self)))))))), H⟩
   obtain ⟨d4, c0, d5, d8, ha, hS, H⟩ := hI
   obtain _ | n := n
   ·simp [confidantlaw23_TraceTells.l0] at H
   rw [confidantlaw23_TraceTells.l0.eq_2] at H
   refine EW.at ?_ a ha
   clear ha a
   refine EW.sq (by kernel_rfl) ?_
   refine EW.sq (by kernel_rfl) ?_
   refine EW.rg (by kernel_rfl) ?_
   refine EL.quick 4 [0, 4, 13, 14, 16, 17, 88] [(0, sv A14 C15 l13), (4, sv A22 C23 l21), (13, sv a4 a5 a6), (14, sv b5 b6 b4), (16, sv d5 d8 d4), (17, ia c0), (88, .bool (decide (c0 < (l21.length : Int))))] (by kernel_rfl) ?_
   refine EL.done (by kernel_rfl) ?_
   refine EQ.code ?_
   refine EW.cdP (c0 < (l21.length : Int)) (by kernel_rfl) (by kernel_rfl) (fun g2 => ?_) (fun g2 => ?_)
   ·rw [if_pos g2] at H
    refine EW.skip (by kernel_rfl) ?_
    refine EQ.code ?_
    refine EW.sq (by kernel_rfl) ?_
    refine EW.bl 2 (by kernel_rfl) ?_
    refine EW.rg (by kernel_rfl) ?_
    refine EL.quick 3 [0, 4, 13, 14, 17, 91, 92, 93] [(0, sv A14 C15 l13), (4, sv A22 C23 l21), (13, sv a4 a5 a6), (14, sv b5 b6 b4), (17, ia c0), (91, sv d5 d8 d4), (92, sv A22 C23 l21), (93, ia c0)] (by kernel_rfl) ?_
    obtain ⟨o9, H⟩ := ite_in H
    obtain ⟨g1, rfl⟩ := St.rd_some hS (Rd.ro 2 rfl) o9 g2
    refine EL.of (EO.Y (YO.idx 24 1 g1 l21.length C23 .i64 c0 94 (by kernel_rfl) (by kernel_rfl) (by kernel_rfl) (by kernel_rfl) o9 g2) ?_)
    refine EL.of (EO.Y (YO.loadEl hS (Kd.int .i64) g1 C23 l21 (Rd.ro 2 rfl) 0 (encI .i64) encI_of c0 o9 g2 3 1 0 1 rfl (ia (l21.getD c0.toNat 0)) 95 (by kernel_rfl) (by kernel_rfl) (by kernel_rfl) (by kernel_rfl)) ?_)
    refine EL.quick 1 [0, 4, 13, 14, 17, 91, 96] [(0, sv A14 C15 l13), (4, sv (some g1) C23 l21), (13, sv a4 a5 a6), (14, sv b5 b6 b4), (17, ia c0), (91, sv d5 d8 d4), (96, ia (bA .i64 (l21.getD c0.toNat 0) 15))] (by kernel_rfl) ?_
    obtain ⟨p5, u3, H⟩ := lt_out H
    refine EL.of (EO.lit hS (Kd.int .i64) 3 24 1 #[(0, ia (bA .i64 (l21.getD c0.toNat 0) 15))] [ia (bA .i64 (l21.getD c0.toNat 0) 15)] p5 97 (by kernel_rfl) (by kernel_rfl) (by kernel_rfl) (fun _ => (by kernel_rfl)) (by rw [u3]; rfl) (by kernel_rfl) (fun w G hr => (by rw [u3]; exact ⟨[ia (bA .i64 (l21.getD c0.toNat 0) 15)], [], rfl, rfl, rfl⟩)) ?_)
    intro t0 w hS
    obtain ⟨v2, H⟩ := ite_in H
    obtain ⟨g6, x9, H⟩ := lt_out H
    refine EL.of (EO.append hS 24 24 3 8 3 (Kd.int .i64) d5 d8 d4 rfl (some ⟨t0, 0, none⟩) 1 p5 (Rd.own 0 3 rfl) g6 x9 (fun f9 g0 => Ass.own 3 (Kd.int .i64) (some ⟨t0, 0, none⟩) 1 p5 :: Ass.own 28 kS28 b5 b6 b4 :: Ass.own 28 kS28 a4 a5 a6 :: Ass.own 3 (Kd.int .i64) f9 g0 g6 :: os) 98 (by kernel_rfl) (by kernel_rfl) (by kernel_rfl) (by kernel_rfl) v2 (fun _ _ => rfl) ?_)
    intro f9 g0 w hS
    refine EL.quick 1 [0, 4, 13, 14, 16, 17] [(0, sv A14 C15 l13), (4, sv (some g1) C23 l21), (13, sv a4 a5 a6), (14, sv b5 b6 b4), (16, sv f9 g0 g6), (17, ia c0)] (by kernel_rfl) ?_
    refine EL.done (by kernel_rfl) ?_
    refine EQ.pop ?_
    refine EQ.code ?_
    refine EW.rg (by kernel_rfl) ?_
    refine EL.quick 3 [0, 4, 13, 14, 16, 17] [(0, sv A14 C15 l13), (4, sv (some g1) C23 l21), (13, sv a4 a5 a6), (14, sv b5 b6 b4), (16, sv f9 g0 g6), (17, ia (IntKind.i64.wrap (c0 + 1)))] (by kernel_rfl) ?_
    refine EL.done (by kernel_rfl) ?_
    refine EQ.to ?_
    refine EQ.keep [0, 4, 13, 14, 16, 17] [(0, sv A14 C15 l13), (4, sv (some g1) C23 l21), (13, sv a4 a5 a6), (14, sv b5 b6 b4), (16, sv f9 g0 g6), (17, ia (IntKind.i64.wrap (c0 + 1)))] (by kernel_rfl) ?_
    exact fun a ha => ⟨n, Nat.lt_succ_self n, g6, IntKind.i64.wrap (c0 + 1), f9, g0, ha, (hS.re [3, 3, 3] [3] rfl (sub_cons 0 rfl (sub_cons 1 rfl (sub_cons 2 rfl (sub_tail (sub_tail (sub_tail (sub_self)))))))), H⟩
   rw [if_neg g2] at H
   refine EW.exit (id := 1) (by kernel_rfl) ?_
   refine EQ.exitCode ?_
   refine EQ.exitTo ?_
   refine EQ.exitHere ?_
   refine EQ.to ?_
   refine EQ.keep [0, 4, 13, 14, 16] [(0, sv A14 C15 l13), (4, sv A22 C23 l21), (13, sv a4 a5 a6), (14, sv b5 b6 b4), (16, sv d5 d8 d4)] (by kernel_rfl) ?_
   exact fun a ha => ⟨d4, d5, d8, ha, (hS.re [2, 2, 2] [] rfl (sub_cons 0 rfl (sub_cons 1 rfl (sub_cons 2 rfl (sub_tail (sub_tail (sub_tail (sub_self)))))))), H⟩
  obtain ⟨e9, f7, f8, ha, hS, H⟩ := hI
  rw [x4] at H
  (try dsimp only at H)
  refine EW.at ?_ a ha
  clear ha a
  refine EW.sq (by kernel_rfl) ?_
  refine EW.sq (by kernel_rfl) ?_
  refine EW.rg (by kernel_rfl) ?_
  refine EL.quick 3 [4, 16, 99, 100, 101] [(4, sv A22 C23 l21), (16, sv f7 f8 e9), (99, sv A14 C15 l13), (100, sv a4 a5 a6), (101, sv b5 b6 b4)] (by kernel_rfl) ?_
  have hS := St.fr hS 1 rfl
  have hS := St.fr hS 0 rfl
  obtain ⟨a1, u4, H⟩ := lt_out H
  refine EL.of (EO.lit hS (Kd.slice kS28) 22 29 3 #[(0, sv A14 C15 l13), (1, sv a4 a5 a6), (2, sv b5 b6 b4)] [sv A14 C15 l13, sv a4 a5 a6, sv b5 b6 b4] a1 102 (by kernel_rfl) (by kernel_rfl) (by kernel_rfl) (fun _ => (by kernel_rfl)) (by rw [u4]; rfl) (by kernel_rfl) (fun w G hr => (by rw [u4]; exact ⟨[sv A14 C15 l13], [sv a4 a5 a6, sv b5 b6 b4], rfl, (hr _ (List.mem_of_getElem? (i := 3) rfl)), ⟨[sv a4 a5 a6], [sv b5 b6 b4], rfl, (hr _ (List.mem_of_getElem? (i := 1) rfl)), ⟨[sv b5 b6 b4], [], rfl, (hr _ (List.mem_of_getElem? (i := 0) rfl)), rfl⟩⟩⟩)) ?_)
  intro a7 w hS
  refine EL.quick 2 [4, 16, 102, 103, 104] [(4, sv A22 C23 l21), (16, sv f7 f8 e9), (102, sv (some ⟨a7, 0, none⟩) 3 a1), (103, ia (a1.length : Int)), (104, ia 0)] (by kernel_rfl) ?_
  refine EL.done (by kernel_rfl) ?_
  refine EQ.code ?_
  refine EW.bl 3 (by kernel_rfl) ?_
  have hS := St.fr hS 1 rfl
  refine EW.lp (fun n a w => ∃ a8 : List Int, ∃ a2 : Int, ∃ a9 : Option Addr, ∃ b0 : Nat, Sat 187 [(4, sv A22 C23 l21), (16, sv a9 b0 a8), (102, sv (some ⟨a7, 0, none⟩) 3 a1), (103, ia (a1.length : Int)), (104, ia a2)] a ∧ St B w (Ass.own 22 (Kd.slice kS28) (some ⟨a7, 0, none⟩) 3 a1 :: os) (Ro.sl (Kd.int .i64) a9 b0 a8 :: Ro.sl kS28 b5 b6 b4 :: Ro.sl kS28 a4 a5 a6 :: Ro.sl kS50 A17 C18 l16 :: Ro.sl kS28 A14 C15 l13 :: Ro.sl (Kd.int .i64) A22 C23 l21 :: rs) ∧ confidantlaw23_TraceTells.l1 K a1 l21 n a8 a2 = some d0) K (by kernel_rfl) ?_ (fun n a w hI => ?_)
  ·refine EQ.keep [4, 16, 102, 103, 104] [(4, sv A22 C23 l21), (16, sv f7 f8 e9), (102, sv (some ⟨a7, 0, none⟩) 3 a1), (103, ia (a1.length : Int)), (104, ia 0)] (by kernel_rfl) ?_
   exact fun a ha => ⟨e9, 0, f7, f8, ha, (hS.re [0] [] rfl (sub_cons 0 rfl (sub_cons 1 rfl (sub_cons 2 rfl (sub_cons 3 rfl (sub_cons 4 rfl (sub_cons 5 rfl (sub_tail (sub_tail (sub_tail (sub_tail (sub_tail (sub_tail (sub_self)))))))))))))), H⟩
  obtain ⟨a8, a2, a9, b0, ha, hS, H⟩ := hI
  obtain _ | n := n
  ·simp [confidantlaw23_TraceTells.l1] at H
  rw [confidantlaw23_TraceTells.l1.eq_2] at H
  refine EW.at ?_ a ha
  clear ha a
  refine EW.sq (by kernel_rfl) ?_
  refine EW.rg (by kernel_rfl) ?_
  refine EL.quick 1 [4, 16, 102, 103, 104, 105] [(4, sv A22 C23 l21), (16, sv a9 b0 a8), (102, sv (some ⟨a7, 0, none⟩) 3 a1), (103, ia (a1.length : Int)), (104, ia a2), (105, .bool (decide (a2 < (a1.length : Int))))] (by kernel_rfl) ?_
  refine EL.done (by kernel_rfl) ?_
  refine EQ.code ?_
  refine EW.sq (by kernel_rfl) ?_
  refine EW.cdP (a2 < (a1.length : Int)) (by kernel_rfl) (by kernel_rfl) (fun g7 => ?_) (fun g7 => ?_)
  ·rw [if_pos g7] at H
   refine EW.skip (by kernel_rfl) ?_
   refine EQ.code ?_
   obtain ⟨g5, x5, H⟩ := lt_out H
   refine EW.ct (fun a w => ∃ m3 : List S28, ∃ q0 : List Int, ∃ q1 : List Int, ∃ t1 : Nat, ∃ m6 : Option Addr, ∃ m9 : Nat, ∃ q2 : Option Addr, ∃ q6 : Nat, ∃ q3 : Option Addr, ∃ q7 : Nat, Sat 187 [(4, sv A22 C23 l21), (16, sv a9 b0 a8), (102, sv (some ⟨a7, 0, none⟩) 3 a1), (103, ia (a1.length : Int)), (104, ia a2)] a ∧ St B w (Ass.box 75 t1 [sv m6 m9 m3] :: Ass.own 5 (Kd.int .u8) q2 q6 q0 :: Ass.own 5 (Kd.int .u8) q3 q7 q1 :: Ass.own 22 (Kd.slice kS28) (some ⟨a7, 0, none⟩) 3 a1 :: os) (Ro.sl kS28 m6 m9 m3 :: Ro.sl (Kd.int .i64) A22 C23 l21 :: Ro.sl (Kd.int .i64) a9 b0 a8 :: Ro.sl kS28 b5 b6 b4 :: Ro.sl kS28 a4 a5 a6 :: Ro.sl kS50 A17 C18 l16 :: Ro.sl kS28 A14 C15 l13 :: rs) ∧ g5 m3 q0 q1 = some d0) (by kernel_rfl) ?_ (fun a w hI => ?_)
   ·refine EW.bl 4 (by kernel_rfl) ?_
    refine EW.sq (by kernel_rfl) ?_
    refine EW.rg (by kernel_rfl) ?_
    obtain ⟨t2, H⟩ := ite_in H
    refine EL.of (EO.Y (YO.idx 29 1 ⟨a7, 0, none⟩ a1.length 3 .i64 a2 106 (by kernel_rfl) (by kernel_rfl) (by kernel_rfl) (by kernel_rfl) t2 g7) ?_)
    refine EL.of (EO.loadSl hS kS28 ⟨a7, 0, none⟩ 3 a1 (Rd.own 0 22 rfl) a2 t2 g7 22 107 (by kernel_rfl) (by kernel_rfl) (by kernel_rfl) (by kernel_rfl) ?_)
    intro b3 a3 hS
    refine EL.quick 1 [4, 16, 19, 102, 103, 104] [(4, sv A22 C23 l21), (16, sv a9 b0 a8), (19, sv b3 a3 (a1.getD a2.toNat [])), (102, sv (some ⟨a7, 0, none⟩) 3 a1), (103, ia (a1.length : Int)), (104, ia a2)] (by kernel_rfl) ?_
    refine EL.done (by kernel_rfl) ?_
    refine EQ.code ?_
    refine EW.sq (by kernel_rfl) ?_
    refine EW.rg (by kernel_rfl) ?_
    obtain ⟨u6, v5, H⟩ := b1_out H
    have hq := trace_New.calls v5 hS
    refine EL.of (EO.callD 13 [] _ 108 (by kernel_rfl) (by kernel_rfl) (by kernel_rfl) hq ?_)
    rintro v w ⟨b8, q4, q8, rfl, hS⟩
    refine EL.quick 1 [4, 16, 19, 20, 102, 103, 104] [(4, sv A22 C23 l21), (16, sv a9 b0 a8), (19, sv b3 a3 (a1.getD a2.toNat [])), (20, pt b8 0), (102, sv (some ⟨a7, 0, none⟩) 3 a1), (103, ia (a1.length : Int)), (104, ia a2)] (by kernel_rfl) ?_
    refine EL.done (by kernel_rfl) ?_
    refine EQ.code ?_
    refine EW.sq (by kernel_rfl) ?_
    refine EW.rg (by kernel_rfl) ?_
    refine EL.quick 2 [4, 16, 19, 20, 102, 103, 104, 109, 110] [(4, sv A22 C23 l21), (16, sv a9 b0 a8), (19, sv b3 a3 (a1.getD a2.toNat [])), (20, pt b8 0), (102, sv (some ⟨a7, 0, none⟩) 3 a1), (103, ia (a1.length : Int)), (104, ia a2), (109, pt b8 0), (110, sv b3 a3 (a1.getD a2.toNat []))] (by kernel_rfl) ?_
    have hS : St B _ (Ass.box 75 b8 [sv q4 q8 u6] :: Ass.own 28 kS28 q4 q8 u6 :: Ass.own 22 (Kd.slice kS28) (some ⟨a7, 0, none⟩) 3 a1 :: os) (Ro.sl kS28 b3 a3 (a1.getD a2.toNat []) :: Ro.sl (Kd.int .i64) a9 b0 a8 :: Ro.sl kS28 b5 b6 b4 :: Ro.sl kS28 a4 a5 a6 :: Ro.sl kS50 A17 C18 l16 :: Ro.sl kS28 A14 C15 l13 :: Ro.sl (Kd.int .i64) A22 C23 l21 :: rs) := hS.re [1, 1] [] rfl (sub_cons 0 rfl (sub_tail (sub_self)))
    obtain ⟨c5, v6, H⟩ := b1_out H
    have hq := trace_Trace_Add.calls v6 hS
    refine EL.of (EO.callD 14 [pt b8 0, sv b3 a3 (a1.getD a2.toNat [])] _ 111 (by kernel_rfl) (by kernel_rfl) (by kernel_rfl) hq ?_)
    rintro v w ⟨c3, c4, rfl, hS⟩
    refine EL.done (by kernel_rfl) ?_
    refine EQ.code ?_
    refine EW.sq (by kernel_rfl) ?_
    obtain ⟨i0, x6, H⟩ := lt_out H
    refine EW.ct (fun a w => ∃ c2 : List S28, ∃ d2 : List Int, ∃ d3 : List Int, ∃ m4 : Bool, ∃ c6 : Option Addr, ∃ c7 : Nat, ∃ d6 : Option Addr, ∃ d9 : Nat, ∃ d7 : Option Addr, ∃ e0 : Nat, Sat 187 [(4, sv A22 C23 l21), (16, sv a9 b0 a8), (19, sv b3 a3 (a1.getD a2.toNat [])), (102, sv (some ⟨a7, 0, none⟩) 3 a1), (103, ia (a1.length : Int)), (104, ia a2), (155, .bool (m4))] a ∧ St B w (Ass.box 75 b8 [sv c6 c7 c2] :: Ass.own 5 (Kd.int .u8) d6 d9 d2 :: Ass.own 5 (Kd.int .u8) d7 e0 d3 :: Ass.own 22 (Kd.slice kS28) (some ⟨a7, 0, none⟩) 3 a1 :: os) (Ro.sl kS28 c6 c7 c2 :: Ro.sl kS28 b3 a3 (a1.getD a2.toNat []) :: Ro.sl (Kd.int .i64) A22 C23 l21 :: Ro.sl (Kd.int .i64) a9 b0 a8 :: Ro.sl kS28 b5 b6 b4 :: Ro.sl kS28 a4 a5 a6 :: Ro.sl kS50 A17 C18 l16 :: Ro.sl kS28 A14 C15 l13 :: rs) ∧ i0 c2 d2 d3 m4 = some d0) (by kernel_rfl) ?_ (fun a w hI => ?_)
    ·obtain ⟨c1, g9, H⟩ := b1_out H
     obtain ⟨c9, g4, H⟩ := b1_out H
     by_cases e6 : ((bStr c1).toList == (bStr c9).toList) = true
     ·rw [if_pos e6] at H
      obtain ⟨j9, m0, j7, H⟩ := b2_out H
      obtain ⟨i6, j8, H⟩ := b1_out H
      by_cases g3 : i6 = true
      ·rw [if_pos g3] at H
       obtain ⟨p7, p2, H⟩ := b1_out H
       obtain ⟨p8, p3, H⟩ := b1_out H
       obtain ⟨m1, p4, H⟩ := b1_out H
       by_cases g8 : m1 = true
       ·rw [if_pos g8] at H
        obtain ⟨u7, t3, H⟩ := b1_out H
        obtain ⟨u9, t4, H⟩ := b1_out H
        obtain ⟨p9, t5, H⟩ := b1_out H
        by_cases j5 : p9 = true
        ·rw [if_pos j5] at H
         obtain ⟨y3, v7, H⟩ := b1_out H
         obtain ⟨y4, v8, H⟩ := b1_out H
         obtain ⟨y5, v9, H⟩ := b1_out H
         refine EW.keep [4, 16, 19, 20, 102, 103, 104] [(4, sv A22 C23 l21), (16, sv a9 b0 a8), (19, sv b3 a3 (a1.getD a2.toNat [])), (20, pt b8 0), (102, sv (some ⟨a7, 0, none⟩) 3 a1), (103, ia (a1.length : Int)), (104, ia a2)] (by kernel_rfl) ?_
         exact confidantlaw23_TraceTells_w48195 K n l13 l16 l21 A14 C15 A17 C18 A22 C23 d0 i0 j9 c9 c1 y5 a9 b0 a8 b3 a3 a1 a2 b8 a7 c3 c4 c5 b5 b6 b4 a4 a5 a6 g5 i6 m1 p9 m0 p7 p8 u7 u9 y3 y4 H hS e6 g3 g8 j5 g9 g4 j7 j8 p2 p3 p4 t3 t4 t5 v7 v8 v9 gB
        rw [if_neg j5] at H
        refine EW.keep [4, 16, 19, 20, 102, 103, 104] [(4, sv A22 C23 l21), (16, sv a9 b0 a8), (19, sv b3 a3 (a1.getD a2.toNat [])), (20, pt b8 0), (102, sv (some ⟨a7, 0, none⟩) 3 a1), (103, ia (a1.length : Int)), (104, ia a2)] (by kernel_rfl) ?_
        exact confidantlaw23_TraceTells_w48296 K n l13 l16 l21 A14 C15 A17 C18 A22 C23 d0 i0 j9 c9 c1 a9 b0 a8 b3 a3 a1 a2 b8 a7 c3 c4 c5 b5 b6 b4 a4 a5 a6 g5 i6 m1 p9 m0 p7 p8 u7 u9 H hS e6 g3 g8 j5 g9 g4 j7 j8 p2 p3 p4 t3 t4 t5 gB
       rw [if_neg g8] at H
       refine EW.keep [4, 16, 19, 20, 102, 103, 104] [(4, sv A22 C23 l21), (16, sv a9 b0 a8), (19, sv b3 a3 (a1.getD a2.toNat [])), (20, pt b8 0), (102, sv (some ⟨a7, 0, none⟩) 3 a1), (103, ia (a1.length : Int)), (104, ia a2)] (by kernel_rfl) ?_
       exact confidantlaw23_TraceTells_w48369 K n l13 l16 l21 A14 C15 A17 C18 A22 C23 d0 i0 j9 c9 c1 a9 b0 a8 b3 a3 a1 a2 b8 a7 c3 c4 c5 b5 b6 b4 a4 a5 a6 g5 i6 m1 m0 p7 p8 H hS e6 g3 g8 g9 g4 j7 j8 p2 p3 p4 gB
      rw [if_neg g3] at H
      refine EW.keep [4, 16, 19, 20, 102, 103, 104] [(4, sv A22 C23 l21), (16, sv a9 b0 a8), (19, sv b3 a3 (a1.getD a2.toNat [])), (20, pt b8 0), (102, sv (some ⟨a7, 0, none⟩) 3 a1), (103, ia (a1.length : Int)), (104, ia a2)] (by kernel_rfl) ?_
      exact confidantlaw23_TraceTells_w48414 K n l13 l16 l21 A14 C15 A17 C18 A22 C23 d0 i0 j9 c9 c1 a9 b0 a8 b3 a3 a1 a2 b8 a7 c3 c4 c5 b5 b6 b4 a4 a5 a6 g5 i6 m0 H hS e6 g3 g9 g4 j7 j8 gB
     rw [if_neg e6] at H
     refine EW.mt (fun a w => ∃ m7 : Option Addr, ∃ n0 : Nat, ∃ m8 : Option Addr, ∃ n1 : Nat, Sat 187 [(4, sv A22 C23 l21), (16, sv a9 b0 a8), (19, sv b3 a3 (a1.getD a2.toNat [])), (102, sv (some ⟨a7, 0, none⟩) 3 a1), (103, ia (a1.length : Int)), (104, ia a2), (155, .bool (true))] a ∧ St B w (Ass.own 5 (Kd.int .u8) m7 n0 c9 :: Ass.own 5 (Kd.int .u8) m8 n1 c1 :: Ass.box 75 b8 [sv c3 c4 c5] :: Ass.own 28 kS28 c3 c4 c5 :: Ass.own 22 (Kd.slice kS28) (some ⟨a7, 0, none⟩) 3 a1 :: os) (Ro.sl kS28 b3 a3 (a1.getD a2.toNat []) :: Ro.sl (Kd.int .i64) a9 b0 a8 :: Ro.sl kS28 b5 b6 b4 :: Ro.sl kS28 a4 a5 a6 :: Ro.sl kS50 A17 C18 l16 :: Ro.sl kS28 A14 C15 l13 :: Ro.sl (Kd.int .i64) A22 C23 l21 :: rs)) (by kernel_rfl) ?_ (fun a w hI => ?_)
     ·have hS := hS.drew
      refine EW.dr (B := B) [Ass.box 75 b8 [sv c3 c4 c5], Ass.own 28 kS28 c3 c4 c5, Ass.own 22 (Kd.slice kS28) (some ⟨a7, 0, none⟩) 3 a1] [Ro.sl kS28 b3 a3 (a1.getD a2.toNat []), Ro.sl (Kd.int .i64) a9 b0 a8, Ro.sl kS28 b5 b6 b4, Ro.sl kS28 a4 a5 a6, Ro.sl kS50 A17 C18 l16, Ro.sl kS28 A14 C15 l13, Ro.sl (Kd.int .i64) A22 C23 l21] (by kernel_rfl) (by kernel_rfl) ?_
      have hN : Region.noSelect Cd3.r.r.r.r.r.r.r.r.l.r.l.l.r.r.l.l.r.r.r.l.l.ops = true := (by kernel_rfl)
      have hF : freeAll Cd3.r.r.r.r.r.r.r.r.l.r.l.l.r.r.l.l.r.r.r.l.l.ops = true := (by kernel_rfl)
      have hC : Core B [Ass.box 75 b8 [sv c3 c4 c5], Ass.own 28 kS28 c3 c4 c5, Ass.own 22 (Kd.slice kS28) (some ⟨a7, 0, none⟩) 3 a1] [Ro.sl kS28 b3 a3 (a1.getD a2.toNat []), Ro.sl (Kd.int .i64) a9 b0 a8, Ro.sl kS28 b5 b6 b4, Ro.sl kS28 a4 a5 a6, Ro.sl kS50 A17 C18 l16, Ro.sl kS28 A14 C15 l13, Ro.sl (Kd.int .i64) A22 C23 l21] _ := ⟨_, _, hS⟩
      refine ED.quick hN hF hC [0, 3] [4, 16, 19, 20, 102, 103, 104, 112, 115] 42 [(4, sv A22 C23 l21), (16, sv a9 b0 a8), (19, sv b3 a3 (a1.getD a2.toNat [])), (20, pt b8 0), (102, sv (some ⟨a7, 0, none⟩) 3 a1), (103, ia (a1.length : Int)), (104, ia a2), (112, sv b3 a3 (a1.getD a2.toNat [])), (115, sv b3 a3 (a1.getD a2.toNat []))] (bm 44 9) (by kernel_rfl) (by kernel_rfl) ?_
      have hS : St B _ (Ass.box 75 b8 [sv c3 c4 c5] :: Ass.own 28 kS28 c3 c4 c5 :: Ass.own 22 (Kd.slice kS28) (some ⟨a7, 0, none⟩) 3 a1 :: os) (Ro.sl kS28 b3 a3 (a1.getD a2.toNat []) :: Ro.sl (Kd.int .i64) a9 b0 a8 :: Ro.sl kS28 b5 b6 b4 :: Ro.sl kS28 a4 a5 a6 :: Ro.sl kS50 A17 C18 l16 :: Ro.sl kS28 A14 C15 l13 :: Ro.sl (Kd.int .i64) A22 C23 l21 :: rs) := hS.re [] [] rfl (sub_cons 0 rfl (sub_tail (sub_self)))
      have hq := trace_Put.calls g9 hS
      refine ED.one 1 41 (bm 44 11) (by kernel_rfl) (by kernel_rfl) (by kernel_rfl) (EO.callD 15 [sv b3 a3 (a1.getD a2.toNat [])] _ 113 (by kernel_rfl) (by kernel_rfl) (by kernel_rfl) hq ?_)
      rintro v w ⟨e7, e8, rfl, hS⟩
      have hC := hC.again ⟨_, _, hS.re [3, 3, 3] [] rfl sub_self⟩
      refine ⟨hC, ?_⟩
      refine ED.two 2 4 40 (by kernel_rfl) (by kernel_rfl) ?_ ?_
      ·refine EO.Y (YO.bstr hS e7 e8 c1 (Rd.own 0 5 rfl) 33 9 5 114 (by kernel_rfl) (by kernel_rfl) (by kernel_rfl) (by kernel_rfl) (by kernel_rfl) (by kernel_rfl)) ?_
       have hC := hC.again ⟨_, _, hS.re [3, 3, 3] [] rfl sub_self⟩
       refine ⟨hC, ?_⟩
       refine ED.at' (bm 44 15) (by kernel_rfl) ?_
       have hS : St B _ (Ass.own 5 (Kd.int .u8) e7 e8 c1 :: Ass.box 75 b8 [sv c3 c4 c5] :: Ass.own 28 kS28 c3 c4 c5 :: Ass.own 22 (Kd.slice kS28) (some ⟨a7, 0, none⟩) 3 a1 :: os) (Ro.sl kS28 b3 a3 (a1.getD a2.toNat []) :: Ro.sl (Kd.int .i64) a9 b0 a8 :: Ro.sl kS28 b5 b6 b4 :: Ro.sl kS28 a4 a5 a6 :: Ro.sl kS50 A17 C18 l16 :: Ro.sl kS28 A14 C15 l13 :: Ro.sl (Kd.int .i64) A22 C23 l21 :: rs) := hS.re [] [] rfl (sub_cons 0 rfl (sub_tail (sub_self)))
       have hq := confidantref21_EventsPut.calls g4 hS
       refine ED.one 4 39 (bm 44 31) (by kernel_rfl) (by kernel_rfl) (by kernel_rfl) (EO.callD 16 [sv b3 a3 (a1.getD a2.toNat [])] _ 116 (by kernel_rfl) (by kernel_rfl) (by kernel_rfl) hq ?_)
       rintro v w ⟨q5, q9, rfl, hS⟩
       have hC := hC.again ⟨_, _, hS.re [4, 4, 4] [] rfl sub_self⟩
       refine ⟨hC, ?_⟩
       refine ED.one 5 38 (bm 44 63) (by kernel_rfl) (by kernel_rfl) (by kernel_rfl) (EO.Y (YO.bstr hS q5 q9 c9 (Rd.own 0 5 rfl) 33 9 5 117 (by kernel_rfl) (by kernel_rfl) (by kernel_rfl) (by kernel_rfl) (by kernel_rfl) (by kernel_rfl)) ?_)
       have hC := hC.again ⟨_, _, hS.re [4, 4, 4] [] rfl sub_self⟩
       refine ⟨hC, ?_⟩
       refine ED.quick hN hF hC [6, 7] [4, 16, 19, 20, 102, 103, 104, 119] 36 [(4, sv A22 C23 l21), (16, sv a9 b0 a8), (19, sv b3 a3 (a1.getD a2.toNat [])), (20, pt b8 0), (102, sv (some ⟨a7, 0, none⟩) 3 a1), (103, ia (a1.length : Int)), (104, ia a2), (119, .bool (!(((bStr c1).toList == (bStr c9).toList))))] (bm 44 255) (by kernel_rfl) (by kernel_rfl) ?_
       refine ED.keep [4, 16, 19, 20, 102, 103, 104, 119] [(4, sv A22 C23 l21), (16, sv a9 b0 a8), (19, sv b3 a3 (a1.getD a2.toNat [])), (20, pt b8 0), (102, sv (some ⟨a7, 0, none⟩) 3 a1), (103, ia (a1.length : Int)), (104, ia a2), (119, .bool (!(((bStr c1).toList == (bStr c9).toList))))] (by kernel_rfl) ?_
       refine ED.as' [(4, sv A22 C23 l21), (16, sv a9 b0 a8), (19, sv b3 a3 (a1.getD a2.toNat [])), (20, pt b8 0), (102, sv (some ⟨a7, 0, none⟩) 3 a1), (103, ia (a1.length : Int)), (104, ia a2), (119, .bool (true))] (by simp only [encS28, sv, (Bool.eq_false_iff.2 e6), Bool.not_true, Bool.not_false]) ?_
       refine ED.quick hN hF hC [8, 9, 10, 11, 12, 13, 14, 15, 16, 17, 18, 19, 20, 21, 22, 23, 24, 25, 26, 27, 28, 29, 30, 31, 32, 33, 34, 35, 36, 37, 38, 39, 40, 41, 42, 43] [4, 16, 19, 102, 103, 104, 120, 121, 122, 123, 124, 127, 128, 129, 130, 131, 132, 133, 134, 137, 138, 139, 140, 141, 142, 143, 144, 147, 148, 149, 150, 151, 152, 153, 154, 155] 0 [(4, sv A22 C23 l21), (16, sv a9 b0 a8), (19, sv b3 a3 (a1.getD a2.toNat [])), (102, sv (some ⟨a7, 0, none⟩) 3 a1), (103, ia (a1.length : Int)), (104, ia a2), (120, undef), (121, undef), (122, undef), (123, undef), (124, undef), (127, undef), (128, undef), (129, undef), (130, undef), (131, undef), (132, undef), (133, undef), (134, undef), (137, undef), (138, undef), (139, undef), (140, undef), (141, undef), (142, undef), (143, undef), (144, undef), (147, undef), (148, undef), (149, undef), (150, undef), (151, undef), (152, undef), (153, undef), (154, undef), (155, .bool (true))] (bm 44 17592186044415) (by kernel_rfl) (by kernel_rfl) ?_
       refine ED.done (by kernel_rfl) ?_
       refine EQ.to ?_
       refine EQ.keep [4, 16, 19, 102, 103, 104, 155] [(4, sv A22 C23 l21), (16, sv a9 b0 a8), (19, sv b3 a3 (a1.getD a2.toNat [])), (102, sv (some ⟨a7, 0, none⟩) 3 a1), (103, ia (a1.length : Int)), (104, ia a2), (155, .bool (true))] (by kernel_rfl) ?_
       exact fun a ha => ⟨q5, q9, e7, e8, ha, (hS.re [4, 4, 4, 4, 4] [] rfl (sub_cons 0 rfl (sub_cons 1 rfl (sub_cons 2 rfl (sub_cons 3 rfl (sub_cons 4 rfl (sub_cons 5 rfl (sub_cons 6 rfl (sub_tail (sub_tail (sub_tail (sub_tail (sub_tail (sub_tail (sub_tail (sub_self))))))))))))))))⟩
      ·have hS : St B _ (Ass.own 5 (Kd.int .u8) e7 e8 c1 :: Ass.box 75 b8 [sv c3 c4 c5] :: Ass.own 28 kS28 c3 c4 c5 :: Ass.own 22 (Kd.slice kS28) (some ⟨a7, 0, none⟩) 3 a1 :: os) (Ro.sl kS28 b3 a3 (a1.getD a2.toNat []) :: Ro.sl (Kd.int .i64) a9 b0 a8 :: Ro.sl kS28 b5 b6 b4 :: Ro.sl kS28 a4 a5 a6 :: Ro.sl kS50 A17 C18 l16 :: Ro.sl kS28 A14 C15 l13 :: Ro.sl (Kd.int .i64) A22 C23 l21 :: rs) := hS.re [] [] rfl (sub_cons 0 rfl (sub_tail (sub_self)))
       have hq := confidantref21_EventsPut.calls g4 hS
       refine EO.callD 16 [sv b3 a3 (a1.getD a2.toNat [])] _ 116 (by kernel_rfl) (by kernel_rfl) (by kernel_rfl) hq ?_
       rintro v w ⟨j1, j2, rfl, hS⟩
       have hC := hC.again ⟨_, _, hS.re [4, 4, 4] [] rfl sub_self⟩
       refine ⟨hC, ?_⟩
       refine ED.at' (bm 44 27) (by kernel_rfl) ?_
       refine ED.two 2 5 39 (by kernel_rfl) (by kernel_rfl) ?_ ?_
       ·refine EO.Y (YO.bstr hS e7 e8 c1 (Rd.own 1 5 rfl) 33 9 5 114 (by kernel_rfl) (by kernel_rfl) (by kernel_rfl) (by kernel_rfl) (by kernel_rfl) (by kernel_rfl)) ?_
        have hC := hC.again ⟨_, _, hS.re [4, 4, 4] [] rfl sub_self⟩
        refine ⟨hC, ?_⟩
        refine ED.at' (bm 44 31) (by kernel_rfl) ?_
        refine ED.one 5 38 (bm 44 63) (by kernel_rfl) (by kernel_rfl) (by kernel_rfl) (EO.Y (YO.bstr hS j1 j2 c9 (Rd.own 0 5 rfl) 33 9 5 117 (by kernel_rfl) (by kernel_rfl) (by kernel_rfl) (by kernel_rfl) (by kernel_rfl) (by kernel_rfl)) ?_)
        have hC := hC.again ⟨_, _, hS.re [4, 4, 4] [] rfl sub_self⟩
        refine ⟨hC, ?_⟩
        refine ED.quick hN hF hC [6, 7] [4, 16, 19, 20, 102, 103, 104, 119] 36 [(4, sv A22 C23 l21), (16, sv a9 b0 a8), (19, sv b3 a3 (a1.getD a2.toNat [])), (20, pt b8 0), (102, sv (some ⟨a7, 0, none⟩) 3 a1), (103, ia (a1.length : Int)), (104, ia a2), (119, .bool (!(((bStr c1).toList == (bStr c9).toList))))] (bm 44 255) (by kernel_rfl) (by kernel_rfl) ?_
        refine ED.keep [4, 16, 19, 20, 102, 103, 104, 119] [(4, sv A22 C23 l21), (16, sv a9 b0 a8), (19, sv b3 a3 (a1.getD a2.toNat [])), (20, pt b8 0), (102, sv (some ⟨a7, 0, none⟩) 3 a1), (103, ia (a1.length : Int)), (104, ia a2), (119, .bool (!(((bStr c1).toList == (bStr c9).toList))))] (by kernel_rfl) ?_
        refine ED.as' [(4, sv A22 C23 l21), (16, sv a9 b0 a8), (19, sv b3 a3 (a1.getD a2.toNat [])), (20, pt b8 0), (102, sv (some ⟨a7, 0, none⟩) 3 a1), (103, ia (a1.length : Int)), (104, ia a2), (119, .bool (true))] (by simp only [encS28, sv, (Bool.eq_false_iff.2 e6), Bool.not_true, Bool.not_false]) ?_
        refine ED.quick hN hF hC [8, 9, 10, 11, 12, 13, 14, 15, 16, 17, 18, 19, 20, 21, 22, 23, 24, 25, 26, 27, 28, 29, 30, 31, 32, 33, 34, 35, 36, 37, 38, 39, 40, 41, 42, 43] [4, 16, 19, 102, 103, 104, 120, 121, 122, 123, 124, 127, 128, 129, 130, 131, 132, 133, 134, 137, 138, 139, 140, 141, 142, 143, 144, 147, 148, 149, 150, 151, 152, 153, 154, 155] 0 [(4, sv A22 C23 l21), (16, sv a9 b0 a8), (19, sv b3 a3 (a1.getD a2.toNat [])), (102, sv (some ⟨a7, 0, none⟩) 3 a1), (103, ia (a1.length : Int)), (104, ia a2), (120, undef), (121, undef), (122, undef), (123, undef), (124, undef), (127, undef), (128, undef), (129, undef), (130, undef), (131, undef), (132, undef), (133, undef), (134, undef), (137, undef), (138, undef), (139, undef), (140, undef), (141, undef), (142, undef), (143, undef), (144, undef), (147, undef), (148, undef), (149, undef), (150, undef), (151, undef), (152, undef), (153, undef), (154, undef), (155, .bool (true))] (bm 44 17592186044415) (by kernel_rfl) (by kernel_rfl) ?_
        refine ED.done (by kernel_rfl) ?_
        refine EQ.to ?_
        refine EQ.keep [4, 16, 19, 102, 103, 104, 155] [(4, sv A22 C23 l21), (16, sv a9 b0 a8), (19, sv b3 a3 (a1.getD a2.toNat [])), (102, sv (some ⟨a7, 0, none⟩) 3 a1), (103, ia (a1.length : Int)), (104, ia a2), (155, .bool (true))] (by kernel_rfl) ?_
        exact fun a ha => ⟨j1, j2, e7, e8, ha, (hS.re [4, 4, 4, 4, 4] [] rfl (sub_cons 0 rfl (sub_cons 1 rfl (sub_cons 2 rfl (sub_cons 3 rfl (sub_cons 4 rfl (sub_cons 5 rfl (sub_cons 6 rfl (sub_tail (sub_tail (sub_tail (sub_tail (sub_tail (sub_tail (sub_tail (sub_self))))))))))))))))⟩
       ·refine EO.Y (YO.bstr hS j1 j2 c9 (Rd.own 0 5 rfl) 33 9 5 117 (by kernel_rfl) (by kernel_rfl) (by kernel_rfl) (by kernel_rfl) (by kernel_rfl) (by kernel_rfl)) ?_
        have hC := hC.again ⟨_, _, hS.re [4, 4, 4] [] rfl sub_self⟩
        refine ⟨hC, ?_⟩
        refine ED.at' (bm 44 59) (by kernel_rfl) ?_
        refine ED.one 2 38 (bm 44 63) (by kernel_rfl) (by kernel_rfl) (by kernel_rfl) (EO.Y (YO.bstr hS e7 e8 c1 (Rd.own 1 5 rfl) 33 9 5 114 (by kernel_rfl) (by kernel_rfl) (by kernel_rfl) (by kernel_rfl) (by kernel_rfl) (by kernel_rfl)) ?_)
        have hC := hC.again ⟨_, _, hS.re [4, 4, 4] [] rfl sub_self⟩
        refine ⟨hC, ?_⟩
        refine ED.quick hN hF hC [6, 7] [4, 16, 19, 20, 102, 103, 104, 119] 36 [(4, sv A22 C23 l21), (16, sv a9 b0 a8), (19, sv b3 a3 (a1.getD a2.toNat [])), (20, pt b8 0), (102, sv (some ⟨a7, 0, none⟩) 3 a1), (103, ia (a1.length : Int)), (104, ia a2), (119, .bool (!(((bStr c1).toList == (bStr c9).toList))))] (bm 44 255) (by kernel_rfl) (by kernel_rfl) ?_
        refine ED.keep [4, 16, 19, 20, 102, 103, 104, 119] [(4, sv A22 C23 l21), (16, sv a9 b0 a8), (19, sv b3 a3 (a1.getD a2.toNat [])), (20, pt b8 0), (102, sv (some ⟨a7, 0, none⟩) 3 a1), (103, ia (a1.length : Int)), (104, ia a2), (119, .bool (!(((bStr c1).toList == (bStr c9).toList))))] (by kernel_rfl) ?_
        refine ED.as' [(4, sv A22 C23 l21), (16, sv a9 b0 a8), (19, sv b3 a3 (a1.getD a2.toNat [])), (20, pt b8 0), (102, sv (some ⟨a7, 0, none⟩) 3 a1), (103, ia (a1.length : Int)), (104, ia a2), (119, .bool (true))] (by simp only [encS28, sv, (Bool.eq_false_iff.2 e6), Bool.not_true, Bool.not_false]) ?_
        refine ED.quick hN hF hC [8, 9, 10, 11, 12, 13, 14, 15, 16, 17, 18, 19, 20, 21, 22, 23, 24, 25, 26, 27, 28, 29, 30, 31, 32, 33, 34, 35, 36, 37, 38, 39, 40, 41, 42, 43] [4, 16, 19, 102, 103, 104, 120, 121, 122, 123, 124, 127, 128, 129, 130, 131, 132, 133, 134, 137, 138, 139, 140, 141, 142, 143, 144, 147, 148, 149, 150, 151, 152, 153, 154, 155] 0 [(4, sv A22 C23 l21), (16, sv a9 b0 a8), (19, sv b3 a3 (a1.getD a2.toNat [])), (102, sv (some ⟨a7, 0, none⟩) 3 a1), (103, ia (a1.length : Int)), (104, ia a2), (120, undef), (121, undef), (122, undef), (123, undef), (124, undef), (127, undef), (128, undef), (129, undef), (130, undef), (131, undef), (132, undef), (133, undef), (134, undef), (137, undef), (138, undef), (139, undef), (140, undef), (141, undef), (142, undef), (143, undef), (144, undef), (147, undef), (148, undef), (149, undef), (150, undef), (151, undef), (152, undef), (153, undef), (154, undef), (155, .bool (true))] (bm 44 17592186044415) (by kernel_rfl) (by kernel_rfl) ?_
        refine ED.done (by kernel_rfl) ?_
        refine EQ.to ?_
        refine EQ.keep [4, 16, 19, 102, 103, 104, 155] [(4, sv A22 C23 l21), (16, sv a9 b0 a8), (19, sv b3 a3 (a1.getD a2.toNat [])), (102, sv (some ⟨a7, 0, none⟩) 3 a1), (103, ia (a1.length : Int)), (104, ia a2), (155, .bool (true))] (by kernel_rfl) ?_
        exact fun a ha => ⟨j1, j2, e7, e8, ha, (hS.re [4, 4, 4, 4, 4] [] rfl (sub_cons 0 rfl (sub_cons 1 rfl (sub_cons 2 rfl (sub_cons 3 rfl (sub_cons 4 rfl (sub_cons 5 rfl (sub_cons 6 rfl (sub_tail (sub_tail (sub_tail (sub_tail (sub_tail (sub_tail (sub_tail (sub_self))))))))))))))))⟩
     ·obtain ⟨m7, n0, m8, n1, ha, hS⟩ := hI
      refine EQ.at ?_ a ha
      clear ha a
      refine EQ.to ?_
      have hS := St.fr hS 3 rfl
      refine EQ.keep [4, 16, 19, 102, 103, 104, 155] [(4, sv A22 C23 l21), (16, sv a9 b0 a8), (19, sv b3 a3 (a1.getD a2.toNat [])), (102, sv (some ⟨a7, 0, none⟩) 3 a1), (103, ia (a1.length : Int)), (104, ia a2), (155, .bool (true))] (by kernel_rfl) ?_
      exact fun a ha => ⟨c5, c9, c1, true, c3, c4, m7, n0, m8, n1, ha, (hS.re [3, 2, 2, 3] [] rfl (sub_cons 0 rfl (sub_cons 1 rfl (sub_cons 7 rfl (sub_cons 2 rfl (sub_cons 3 rfl (sub_cons 4 rfl (sub_cons 5 rfl (sub_cons 6 rfl (sub_tail (sub_tail (sub_tail (sub_tail (sub_tail (sub_tail (sub_tail (sub_tail (sub_self)))))))))))))))))), H⟩
    obtain ⟨c2, d2, d3, m4, c6, c7, d6, d9, d7, e0, ha, hS, H⟩ := hI
    rw [x6] at H
    (try dsimp only at H)
    refine EW.at ?_ a ha
    clear ha a
    refine EW.cdP' (m4) (by kernel_rfl) (by kernel_rfl) (fun p0 => ?_) (fun p0 => ?_)
    ·rw [if_pos p0] at H
     refine EW.sq (by kernel_rfl) ?_
     refine EW.rg (by kernel_rfl) ?_
     refine EL.quick 1 [12] [(12, .bool (false))] (by kernel_rfl) ?_
     refine EL.done (by kernel_rfl) ?_
     refine EQ.code ?_
     refine EW.ret (by kernel_rfl) ?_
     refine EQ.ret ?_
     refine EQ.ret ?_
     refine EQ.ret ?_
     refine EQ.ret ?_
     refine EQ.ret ?_
     refine EQ.ret ?_
     obtain rfl := Option.some.inj H
     exact EQ.leave (.bool (false)) (by kernel_rfl) ⟨_, rfl, rfl, (hS.re [] [0, 0, 0, 0] rfl (sub_cons 7 rfl (sub_cons 6 rfl (sub_cons 2 rfl (sub_tail (sub_tail (sub_tail (sub_tail (sub_tail (sub_tail (sub_tail (sub_tail (sub_self)))))))))))))⟩
    rw [if_neg p0] at H
    refine EW.skip (by kernel_rfl) ?_
    refine EQ.code ?_
    refine EW.sq (by kernel_rfl) ?_
    refine EW.rg (by kernel_rfl) ?_
    refine EL.quick 1 [4, 16, 19, 21, 102, 103, 104] [(4, sv A22 C23 l21), (16, sv a9 b0 a8), (19, sv b3 a3 (a1.getD a2.toNat [])), (21, ia 0), (102, sv (some ⟨a7, 0, none⟩) 3 a1), (103, ia (a1.length : Int)), (104, ia a2)] (by kernel_rfl) ?_
    refine EL.done (by kernel_rfl) ?_
    refine EQ.code ?_
    refine EW.bl 5 (by kernel_rfl) ?_
    refine EW.lp (fun n a w => ∃ b2 : Int, Sat 187 [(4, sv A22 C23 l21), (16, sv a9 b0 a8), (19, sv b3 a3 (a1.getD a2.toNat [])), (21, ia b2), (102, sv (some ⟨a7, 0, none⟩) 3 a1), (103, ia (a1.length : Int)), (104, ia a2)] a ∧ St B w (Ass.box 75 b8 [sv c6 c7 c2] :: Ass.own 5 (Kd.int .u8) d6 d9 d2 :: Ass.own 5 (Kd.int .u8) d7 e0 d3 :: Ass.own 22 (Kd.slice kS28) (some ⟨a7, 0, none⟩) 3 a1 :: os) (Ro.sl kS28 c6 c7 c2 :: Ro.sl kS28 b3 a3 (a1.getD a2.toNat []) :: Ro.sl (Kd.int .i64) A22 C23 l21 :: Ro.sl (Kd.int .i64) a9 b0 a8 :: Ro.sl kS28 b5 b6 b4 :: Ro.sl kS28 a4 a5 a6 :: Ro.sl kS50 A17 C18 l16 :: Ro.sl kS28 A14 C15 l13 :: rs) ∧ confidantlaw23_TraceTells.l2 K a1 a2 g5 c2 d2 d3 n b2 = some d0) K (by kernel_rfl) ?_ (fun n a w hI => ?_)
    ·refine EQ.keep [4, 16, 19, 21, 102, 103, 104] [(4, sv A22 C23 l21), (16, sv a9 b0 a8), (19, sv b3 a3 (a1.getD a2.toNat [])), (21, ia 0), (102, sv (some ⟨a7, 0, none⟩) 3 a1), (103, ia (a1.length : Int)), (104, ia a2)] (by kernel_rfl) ?_
     exact fun a ha => ⟨0, ha, (hS.re [3, 3, 3, 3] [] rfl (sub_cons 0 rfl (sub_cons 1 rfl (sub_cons 2 rfl (sub_cons 3 rfl (sub_cons 4 rfl (sub_cons 5 rfl (sub_cons 6 rfl (sub_cons 7 rfl (sub_tail (sub_tail (sub_tail (sub_tail (sub_tail (sub_tail (sub_tail (sub_tail (sub_self)))))))))))))))))), H⟩
    obtain ⟨b2, ha, hS, H⟩ := hI
    obtain _ | n := n
    ·simp [confidantlaw23_TraceTells.l2] at H
    rw [confidantlaw23_TraceTells.l2.eq_2] at H
    refine EW.at ?_ a ha
    clear ha a
    refine EW.sq (by kernel_rfl) ?_
    refine EW.sq (by kernel_rfl) ?_
    refine EW.rg (by kernel_rfl) ?_
    refine EL.quick 4 [4, 16, 19, 21, 102, 103, 104, 159] [(4, sv A22 C23 l21), (16, sv a9 b0 a8), (19, sv b3 a3 (a1.getD a2.toNat [])), (21, ia b2), (102, sv (some ⟨a7, 0, none⟩) 3 a1), (103, ia (a1.length : Int)), (104, ia a2), (159, .bool (decide (b2 < ((a1.getD a2.toNat []).length : Int))))] (by kernel_rfl) ?_
    refine EL.done (by kernel_rfl) ?_
    refine EQ.code ?_
    refine EW.cdP (b2 < ((a1.getD a2.toNat []).length : Int)) (by kernel_rfl) (by kernel_rfl) (fun c8 => ?_) (fun c8 => ?_)
    ·rw [if_pos c8] at H
     refine EW.skip (by kernel_rfl) ?_
     refine EQ.code ?_
     refine EW.sq (by kernel_rfl) ?_
     refine EW.bl 6 (by kernel_rfl) ?_
     obtain ⟨y2, x7, H⟩ := lt_out H
     refine EW.ct (fun a w => ∃ m5 : Bool, Sat 187 [(4, sv A22 C23 l21), (16, sv a9 b0 a8), (19, sv b3 a3 (a1.getD a2.toNat [])), (21, ia b2), (102, sv (some ⟨a7, 0, none⟩) 3 a1), (103, ia (a1.length : Int)), (104, ia a2), (185, .bool (m5))] a ∧ St B w (Ass.box 75 b8 [sv c6 c7 c2] :: Ass.own 5 (Kd.int .u8) d6 d9 d2 :: Ass.own 5 (Kd.int .u8) d7 e0 d3 :: Ass.own 22 (Kd.slice kS28) (some ⟨a7, 0, none⟩) 3 a1 :: os) (Ro.sl kS28 c6 c7 c2 :: Ro.sl kS28 b3 a3 (a1.getD a2.toNat []) :: Ro.sl (Kd.int .i64) A22 C23 l21 :: Ro.sl (Kd.int .i64) a9 b0 a8 :: Ro.sl kS28 b5 b6 b4 :: Ro.sl kS28 a4 a5 a6 :: Ro.sl kS50 A17 C18 l16 :: Ro.sl kS28 A14 C15 l13 :: rs) ∧ y2 m5 = some d0) (by kernel_rfl) ?_ (fun a w hI => ?_)
     ·obtain ⟨d1, H⟩ := ite_in H
      obtain ⟨b7, rfl⟩ := St.rd_some hS (Rd.ro 1 rfl) d1 c8
      obtain ⟨i7, t6, H⟩ := b1_out H
      obtain ⟨i8, t7, H⟩ := b1_out H
      by_cases j6 : (i7 == i8) = true
      ·rw [if_pos j6] at H
       obtain ⟨i9, x0, H⟩ := b1_out H
       obtain ⟨j0, x1, H⟩ := b1_out H
       have hS := hS.drew
       refine EW.dr (B := B) [Ass.box 75 b8 [sv c6 c7 c2], Ass.own 5 (Kd.int .u8) d6 d9 d2, Ass.own 5 (Kd.int .u8) d7 e0 d3, Ass.own 22 (Kd.slice kS28) (some ⟨a7, 0, none⟩) 3 a1] [Ro.sl kS28 c6 c7 c2, Ro.sl kS28 (some b7) a3 (a1.getD a2.toNat []), Ro.sl (Kd.int .i64) A22 C23 l21, Ro.sl (Kd.int .i64) a9 b0 a8, Ro.sl kS28 b5 b6 b4, Ro.sl kS28 a4 a5 a6, Ro.sl kS50 A17 C18 l16, Ro.sl kS28 A14 C15 l13] (by kernel_rfl) (by kernel_rfl) ?_
       have hN : Region.noSelect Cd3.r.r.r.r.r.r.r.r.l.r.l.l.r.r.l.l.r.r.r.r.r.l.l.r.l.l.l.ops = true := (by kernel_rfl)
       have hF : freeAll Cd3.r.r.r.r.r.r.r.r.l.r.l.l.r.r.l.l.r.r.r.r.r.l.l.r.l.l.l.ops = true := (by kernel_rfl)
       have hC : Core B [Ass.box 75 b8 [sv c6 c7 c2], Ass.own 5 (Kd.int .u8) d6 d9 d2, Ass.own 5 (Kd.int .u8) d7 e0 d3, Ass.own 22 (Kd.slice kS28) (some ⟨a7, 0, none⟩) 3 a1] [Ro.sl kS28 c6 c7 c2, Ro.sl kS28 (some b7) a3 (a1.getD a2.toNat []), Ro.sl (Kd.int .i64) A22 C23 l21, Ro.sl (Kd.int .i64) a9 b0 a8, Ro.sl kS28 b5 b6 b4, Ro.sl kS28 a4 a5 a6, Ro.sl kS50 A17 C18 l16, Ro.sl kS28 A14 C15 l13] _ := ⟨_, _, hS⟩
       refine ED.quick hN hF hC [0, 1, 5, 6] [4, 16, 19, 21, 102, 103, 104, 162, 163, 167, 168] 20 [(4, sv A22 C23 l21), (16, sv a9 b0 a8), (19, sv (some b7) a3 (a1.getD a2.toNat [])), (21, ia b2), (102, sv (some ⟨a7, 0, none⟩) 3 a1), (103, ia (a1.length : Int)), (104, ia a2), (162, sv (some b7) a3 (a1.getD a2.toNat [])), (163, ia b2), (167, sv (some b7) a3 (a1.getD a2.toNat [])), (168, ia b2)] (bm 24 99) (by kernel_rfl) (by kernel_rfl) ?_
       refine ED.Y hN hF hC 2 19 (bm 24 103) (by kernel_rfl) (by kernel_rfl) rfl (fun _ _ _ hS => YO.idx 22 7 b7 (a1.getD a2.toNat []).length a3 .i64 b2 164 (by kernel_rfl) (by kernel_rfl) (by kernel_rfl) (by kernel_rfl) d1 c8) ?_
       refine ED.Y hN hF hC 3 18 (bm 24 111) (by kernel_rfl) (by kernel_rfl) rfl (fun _ _ _ hS => YO.loadEl hS kS28 b7 a3 (a1.getD a2.toNat []) (Rd.ro 1 rfl) zS28 encS28 encS28_of b2 d1 c8 28 7 0 7 rfl (ag (encS28 ((a1.getD a2.toNat []).getD b2.toNat zS28))) 165 (by kernel_rfl) (by kernel_rfl) (by kernel_rfl) (by kernel_rfl)) ?_
       refine ED.Y hN hF hC 7 17 (bm 24 239) (by kernel_rfl) (by kernel_rfl) rfl (fun _ _ _ hS => YO.idx 22 7 b7 (a1.getD a2.toNat []).length a3 .i64 b2 169 (by kernel_rfl) (by kernel_rfl) (by kernel_rfl) (by kernel_rfl) d1 c8) ?_
       refine ED.Y hN hF hC 8 16 (bm 24 495) (by kernel_rfl) (by kernel_rfl) rfl (fun _ _ _ hS => YO.loadEl hS kS28 b7 a3 (a1.getD a2.toNat []) (Rd.ro 1 rfl) zS28 encS28 encS28_of b2 d1 c8 28 7 0 7 rfl (ag (encS28 ((a1.getD a2.toNat []).getD b2.toNat zS28))) 170 (by kernel_rfl) (by kernel_rfl) (by kernel_rfl) (by kernel_rfl)) ?_
       have hq := trace_Right.calls t6 hS
       refine ED.one 4 15 (bm 24 511) (by kernel_rfl) (by kernel_rfl) (by kernel_rfl) (EO.callD 23 [ag (encS28 ((a1.getD a2.toNat []).getD b2.toNat zS28))] _ 166 (by kernel_rfl) (by kernel_rfl) (by kernel_rfl) hq ?_)
       rintro v w ⟨rfl, hS⟩
       have hC := hC.again ⟨_, _, hS⟩
       refine ⟨hC, ?_⟩
       have hq := confidantref21_EventRight.calls t7 hS
       refine ED.one 9 14 (bm 24 1023) (by kernel_rfl) (by kernel_rfl) (by kernel_rfl) (EO.callD 24 [ag (encS28 ((a1.getD a2.toNat []).getD b2.toNat zS28))] _ 171 (by kernel_rfl) (by kernel_rfl) (by kernel_rfl) hq ?_)
       rintro v w ⟨rfl, hS⟩
       have hC := hC.again ⟨_, _, hS⟩
       refine ⟨hC, ?_⟩
       refine ED.quick hN hF hC [10, 11] [4, 16, 19, 21, 102, 103, 104, 173] 12 [(4, sv A22 C23 l21), (16, sv a9 b0 a8), (19, sv (some b7) a3 (a1.getD a2.toNat [])), (21, ia b2), (102, sv (some ⟨a7, 0, none⟩) 3 a1), (103, ia (a1.length : Int)), (104, ia a2), (173, .bool (!((i7 == i8))))] (bm 24 4095) (by kernel_rfl) (by kernel_rfl) ?_
       refine ED.keep [4, 16, 19, 21, 102, 103, 104, 173] [(4, sv A22 C23 l21), (16, sv a9 b0 a8), (19, sv (some b7) a3 (a1.getD a2.toNat [])), (21, ia b2), (102, sv (some ⟨a7, 0, none⟩) 3 a1), (103, ia (a1.length : Int)), (104, ia a2), (173, .bool (!((i7 == i8))))] (by kernel_rfl) ?_
       refine ED.as' [(4, sv A22 C23 l21), (16, sv a9 b0 a8), (19, sv (some b7) a3 (a1.getD a2.toNat [])), (21, ia b2), (102, sv (some ⟨a7, 0, none⟩) 3 a1), (103, ia (a1.length : Int)), (104, ia a2), (173, .bool (false))] (by simp only [encS28, sv, j6, Bool.not_true, Bool.not_false]) ?_
       refine ED.quick hN hF hC [12, 13, 17, 18] [4, 16, 19, 21, 102, 103, 104, 173, 174, 175, 179, 180] 8 [(4, sv A22 C23 l21), (16, sv a9 b0 a8), (19, sv (some b7) a3 (a1.getD a2.toNat [])), (21, ia b2), (102, sv (some ⟨a7, 0, none⟩) 3 a1), (103, ia (a1.length : Int)), (104, ia a2), (173, .bool (false)), (174, sv (some b7) a3 (a1.getD a2.toNat [])), (175, ia b2), (179, sv (some b7) a3 (a1.getD a2.toNat [])), (180, ia b2)] (bm 24 409599) (by kernel_rfl) (by kernel_rfl) ?_
       refine ED.Y hN hF hC 14 7 (bm 24 425983) (by kernel_rfl) (by kernel_rfl) rfl (fun _ _ _ hS => YO.idx 22 7 b7 (a1.getD a2.toNat []).length a3 .i64 b2 176 (by kernel_rfl) (by kernel_rfl) (by kernel_rfl) (by kernel_rfl) d1 c8) ?_
       refine ED.Y hN hF hC 15 6 (bm 24 458751) (by kernel_rfl) (by kernel_rfl) rfl (fun _ _ _ hS => YO.loadEl hS kS28 b7 a3 (a1.getD a2.toNat []) (Rd.ro 1 rfl) zS28 encS28 encS28_of b2 d1 c8 28 7 0 7 rfl (ag (encS28 ((a1.getD a2.toNat []).getD b2.toNat zS28))) 177 (by kernel_rfl) (by kernel_rfl) (by kernel_rfl) (by kernel_rfl)) ?_
       refine ED.Y hN hF hC 19 5 (bm 24 983039) (by kernel_rfl) (by kernel_rfl) rfl (fun _ _ _ hS => YO.idx 22 7 b7 (a1.getD a2.toNat []).length a3 .i64 b2 181 (by kernel_rfl) (by kernel_rfl) (by kernel_rfl) (by kernel_rfl) d1 c8) ?_
       refine ED.Y hN hF hC 20 4 (bm 24 2031615) (by kernel_rfl) (by kernel_rfl) rfl (fun _ _ _ hS => YO.loadEl hS kS28 b7 a3 (a1.getD a2.toNat []) (Rd.ro 1 rfl) zS28 encS28 encS28_of b2 d1 c8 28 7 0 7 rfl (ag (encS28 ((a1.getD a2.toNat []).getD b2.toNat zS28))) 182 (by kernel_rfl) (by kernel_rfl) (by kernel_rfl) (by kernel_rfl)) ?_
       have hq := trace_Text.calls x0 hS gB
       refine ED.one 16 3 (bm 24 2097151) (by kernel_rfl) (by kernel_rfl) (by kernel_rfl) (EO.callD 25 [ag (encS28 ((a1.getD a2.toNat []).getD b2.toNat zS28))] _ 178 (by kernel_rfl) (by kernel_rfl) (by kernel_rfl) hq ?_)
       rintro v w ⟨rfl, hS⟩
       have hC := hC.again ⟨_, _, hS⟩
       refine ⟨hC, ?_⟩
       have hq := confidantref21_EventText.calls x1 hS
       refine ED.one 21 2 (bm 24 4194303) (by kernel_rfl) (by kernel_rfl) (by kernel_rfl) (EO.callD 26 [ag (encS28 ((a1.getD a2.toNat []).getD b2.toNat zS28))] _ 183 (by kernel_rfl) (by kernel_rfl) (by kernel_rfl) hq ?_)
       rintro v w ⟨rfl, hS⟩
       have hC := hC.again ⟨_, _, hS⟩
       refine ⟨hC, ?_⟩
       refine ED.quick hN hF hC [22, 23] [4, 16, 19, 21, 102, 103, 104, 174, 175, 176, 177, 178, 179, 180, 181, 182, 183, 184, 185] 0 [(4, sv A22 C23 l21), (16, sv a9 b0 a8), (19, sv (some b7) a3 (a1.getD a2.toNat [])), (21, ia b2), (102, sv (some ⟨a7, 0, none⟩) 3 a1), (103, ia (a1.length : Int)), (104, ia a2), (174, sv (some b7) a3 (a1.getD a2.toNat [])), (175, ia b2), (176, .pointer (some ((b7.add (b2.toNat * 7)).add 0))), (177, ag (encS28 ((a1.getD a2.toNat []).getD b2.toNat zS28))), (178, .string i9), (179, sv (some b7) a3 (a1.getD a2.toNat [])), (180, ia b2), (181, .pointer (some ((b7.add (b2.toNat * 7)).add 0))), (182, ag (encS28 ((a1.getD a2.toNat []).getD b2.toNat zS28))), (183, .string j0), (184, .bool (!((i9.toList == j0.toList)))), (185, .bool (!((i9.toList == j0.toList))))] (bm 24 16777215) (by kernel_rfl) (by kernel_rfl) ?_
       refine ED.done (by kernel_rfl) ?_
       refine EQ.to ?_
       refine EQ.keep [4, 16, 19, 21, 102, 103, 104, 185] [(4, sv A22 C23 l21), (16, sv a9 b0 a8), (19, sv (some b7) a3 (a1.getD a2.toNat [])), (21, ia b2), (102, sv (some ⟨a7, 0, none⟩) 3 a1), (103, ia (a1.length : Int)), (104, ia a2), (185, .bool (!((i9.toList == j0.toList))))] (by kernel_rfl) ?_
       exact fun a ha => ⟨!((i9.toList == j0.toList)), ha, (hS.re [3, 3, 3, 3] [] rfl (sub_cons 0 rfl (sub_cons 1 rfl (sub_cons 2 rfl (sub_cons 3 rfl (sub_cons 4 rfl (sub_cons 5 rfl (sub_cons 6 rfl (sub_cons 7 rfl (sub_tail (sub_tail (sub_tail (sub_tail (sub_tail (sub_tail (sub_tail (sub_tail (sub_self)))))))))))))))))), H⟩
      rw [if_neg j6] at H
      have hS := hS.drew
      refine EW.dr (B := B) [Ass.box 75 b8 [sv c6 c7 c2], Ass.own 5 (Kd.int .u8) d6 d9 d2, Ass.own 5 (Kd.int .u8) d7 e0 d3, Ass.own 22 (Kd.slice kS28) (some ⟨a7, 0, none⟩) 3 a1] [Ro.sl kS28 c6 c7 c2, Ro.sl kS28 (some b7) a3 (a1.getD a2.toNat []), Ro.sl (Kd.int .i64) A22 C23 l21, Ro.sl (Kd.int .i64) a9 b0 a8, Ro.sl kS28 b5 b6 b4, Ro.sl kS28 a4 a5 a6, Ro.sl kS50 A17 C18 l16, Ro.sl kS28 A14 C15 l13] (by kernel_rfl) (by kernel_rfl) ?_
      have hN : Region.noSelect Cd3.r.r.r.r.r.r.r.r.l.r.l.l.r.r.l.l.r.r.r.r.r.l.l.r.l.l.l.ops = true := (by kernel_rfl)
      have hF : freeAll Cd3.r.r.r.r.r.r.r.r.l.r.l.l.r.r.l.l.r.r.r.r.r.l.l.r.l.l.l.ops = true := (by kernel_rfl)
      have hC : Core B [Ass.box 75 b8 [sv c6 c7 c2], Ass.own 5 (Kd.int .u8) d6 d9 d2, Ass.own 5 (Kd.int .u8) d7 e0 d3, Ass.own 22 (Kd.slice kS28) (some ⟨a7, 0, none⟩) 3 a1] [Ro.sl kS28 c6 c7 c2, Ro.sl kS28 (some b7) a3 (a1.getD a2.toNat []), Ro.sl (Kd.int .i64) A22 C23 l21, Ro.sl (Kd.int .i64) a9 b0 a8, Ro.sl kS28 b5 b6 b4, Ro.sl kS28 a4 a5 a6, Ro.sl kS50 A17 C18 l16, Ro.sl kS28 A14 C15 l13] _ := ⟨_, _, hS⟩
      refine ED.quick hN hF hC [0, 1, 5, 6] [4, 16, 19, 21, 102, 103, 104, 162, 163, 167, 168] 20 [(4, sv A22 C23 l21), (16, sv a9 b0 a8), (19, sv (some b7) a3 (a1.getD a2.toNat [])), (21, ia b2), (102, sv (some ⟨a7, 0, none⟩) 3 a1), (103, ia (a1.length : Int)), (104, ia a2), (162, sv (some b7) a3 (a1.getD a2.toNat [])), (163, ia b2), (167, sv (some b7) a3 (a1.getD a2.toNat [])), (168, ia b2)] (bm 24 99) (by kernel_rfl) (by kernel_rfl) ?_
      refine ED.Y hN hF hC 2 19 (bm 24 103) (by kernel_rfl) (by kernel_rfl) rfl (fun _ _ _ hS => YO.idx 22 7 b7 (a1.getD a2.toNat []).length a3 .i64 b2 164 (by kernel_rfl) (by kernel_rfl) (by kernel_rfl) (by kernel_rfl) d1 c8) ?_
      refine ED.Y hN hF hC 3 18 (bm 24 111) (by kernel_rfl) (by kernel_rfl) rfl (fun _ _ _ hS => YO.loadEl hS kS28 b7 a3 (a1.getD a2.toNat []) (Rd.ro 1 rfl) zS28 encS28 encS28_of b2 d1 c8 28 7 0 7 rfl (ag (encS28 ((a1.getD a2.toNat []).getD b2.toNat zS28))) 165 (by kernel_rfl) (by kernel_rfl) (by kernel_rfl) (by kernel_rfl)) ?_
      refine ED.Y hN hF hC 7 17 (bm 24 239) (by kernel_rfl) (by kernel_rfl) rfl (fun _ _ _ hS => YO.idx 22 7 b7 (a1.getD a2.toNat []).length a3 .i64 b2 169 (by kernel_rfl) (by kernel_rfl) (by kernel_rfl) (by kernel_rfl) d1 c8) ?_
      refine ED.Y hN hF hC 8 16 (bm 24 495) (by kernel_rfl) (by kernel_rfl) rfl (fun _ _ _ hS => YO.loadEl hS kS28 b7 a3 (a1.getD a2.toNat []) (Rd.ro 1 rfl) zS28 encS28 encS28_of b2 d1 c8 28 7 0 7 rfl (ag (encS28 ((a1.getD a2.toNat []).getD b2.toNat zS28))) 170 (by kernel_rfl) (by kernel_rfl) (by kernel_rfl) (by kernel_rfl)) ?_
      have hq := trace_Right.calls t6 hS
      refine ED.one 4 15 (bm 24 511) (by kernel_rfl) (by kernel_rfl) (by kernel_rfl) (EO.callD 23 [ag (encS28 ((a1.getD a2.toNat []).getD b2.toNat zS28))] _ 166 (by kernel_rfl) (by kernel_rfl) (by kernel_rfl) hq ?_)
      rintro v w ⟨rfl, hS⟩
      have hC := hC.again ⟨_, _, hS⟩
      refine ⟨hC, ?_⟩
      have hq := confidantref21_EventRight.calls t7 hS
      refine ED.one 9 14 (bm 24 1023) (by kernel_rfl) (by kernel_rfl) (by kernel_rfl) (EO.callD 24 [ag (encS28 ((a1.getD a2.toNat []).getD b2.toNat zS28))] _ 171 (by kernel_rfl) (by kernel_rfl) (by kernel_rfl) hq ?_)
      rintro v w ⟨rfl, hS⟩
      have hC := hC.again ⟨_, _, hS⟩
      refine ⟨hC, ?_⟩
      refine ED.quick hN hF hC [10, 11] [4, 16, 19, 21, 102, 103, 104, 173] 12 [(4, sv A22 C23 l21), (16, sv a9 b0 a8), (19, sv (some b7) a3 (a1.getD a2.toNat [])), (21, ia b2), (102, sv (some ⟨a7, 0, none⟩) 3 a1), (103, ia (a1.length : Int)), (104, ia a2), (173, .bool (!((i7 == i8))))] (bm 24 4095) (by kernel_rfl) (by kernel_rfl) ?_
      refine ED.keep [4, 16, 19, 21, 102, 103, 104, 173] [(4, sv A22 C23 l21), (16, sv a9 b0 a8), (19, sv (some b7) a3 (a1.getD a2.toNat [])), (21, ia b2), (102, sv (some ⟨a7, 0, none⟩) 3 a1), (103, ia (a1.length : Int)), (104, ia a2), (173, .bool (!((i7 == i8))))] (by kernel_rfl) ?_
      refine ED.as' [(4, sv A22 C23 l21), (16, sv a9 b0 a8), (19, sv (some b7) a3 (a1.getD a2.toNat [])), (21, ia b2), (102, sv (some ⟨a7, 0, none⟩) 3 a1), (103, ia (a1.length : Int)), (104, ia a2), (173, .bool (true))] (by simp only [encS28, sv, (Bool.eq_false_iff.2 j6), Bool.not_true, Bool.not_false]) ?_
      refine ED.quick hN hF hC [12, 13, 14, 15, 16, 17, 18, 19, 20, 21, 22, 23] [4, 16, 19, 21, 102, 103, 104, 174, 175, 176, 177, 178, 179, 180, 181, 182, 183, 184, 185] 0 [(4, sv A22 C23 l21), (16, sv a9 b0 a8), (19, sv (some b7) a3 (a1.getD a2.toNat [])), (21, ia b2), (102, sv (some ⟨a7, 0, none⟩) 3 a1), (103, ia (a1.length : Int)), (104, ia a2), (174, undef), (175, undef), (176, undef), (177, undef), (178, undef), (179, undef), (180, undef), (181, undef), (182, undef), (183, undef), (184, undef), (185, .bool (true))] (bm 24 16777215) (by kernel_rfl) (by kernel_rfl) ?_
      refine ED.done (by kernel_rfl) ?_
      refine EQ.to ?_
      refine EQ.keep [4, 16, 19, 21, 102, 103, 104, 185] [(4, sv A22 C23 l21), (16, sv a9 b0 a8), (19, sv (some b7) a3 (a1.getD a2.toNat [])), (21, ia b2), (102, sv (some ⟨a7, 0, none⟩) 3 a1), (103, ia (a1.length : Int)), (104, ia a2), (185, .bool (true))] (by kernel_rfl) ?_
      exact fun a ha => ⟨true, ha, (hS.re [3, 3, 3, 3] [] rfl (sub_cons 0 rfl (sub_cons 1 rfl (sub_cons 2 rfl (sub_cons 3 rfl (sub_cons 4 rfl (sub_cons 5 rfl (sub_cons 6 rfl (sub_cons 7 rfl (sub_tail (sub_tail (sub_tail (sub_tail (sub_tail (sub_tail (sub_tail (sub_tail (sub_self)))))))))))))))))), H⟩
     obtain ⟨m5, ha, hS, H⟩ := hI
     rw [x7] at H
     (try dsimp only at H)
     refine EW.at ?_ a ha
     clear ha a
     refine EW.cdP' (m5) (by kernel_rfl) (by kernel_rfl) (fun p1 => ?_) (fun p1 => ?_)
     ·rw [if_pos p1] at H
      refine EW.sq (by kernel_rfl) ?_
      refine EW.rg (by kernel_rfl) ?_
      refine EL.quick 1 [12] [(12, .bool (false))] (by kernel_rfl) ?_
      refine EL.done (by kernel_rfl) ?_
      refine EQ.code ?_
      refine EW.ret (by kernel_rfl) ?_
      refine EQ.ret ?_
      refine EQ.ret ?_
      refine EQ.ret ?_
      refine EQ.ret ?_
      refine EQ.ret ?_
      refine EQ.ret ?_
      refine EQ.ret ?_
      refine EQ.ret ?_
      refine EQ.ret ?_
      obtain rfl := Option.some.inj H
      exact EQ.leave (.bool (false)) (by kernel_rfl) ⟨_, rfl, rfl, (hS.re [] [0, 0, 0, 0] rfl (sub_cons 7 rfl (sub_cons 6 rfl (sub_cons 2 rfl (sub_tail (sub_tail (sub_tail (sub_tail (sub_tail (sub_tail (sub_tail (sub_tail (sub_self)))))))))))))⟩
     rw [if_neg p1] at H
     refine EW.skip (by kernel_rfl) ?_
     refine EQ.pop ?_
     refine EQ.code ?_
     refine EW.rg (by kernel_rfl) ?_
     refine EL.quick 3 [4, 16, 19, 21, 102, 103, 104] [(4, sv A22 C23 l21), (16, sv a9 b0 a8), (19, sv b3 a3 (a1.getD a2.toNat [])), (21, ia (IntKind.i64.wrap (b2 + 1))), (102, sv (some ⟨a7, 0, none⟩) 3 a1), (103, ia (a1.length : Int)), (104, ia a2)] (by kernel_rfl) ?_
     refine EL.done (by kernel_rfl) ?_
     refine EQ.to ?_
     refine EQ.keep [4, 16, 19, 21, 102, 103, 104] [(4, sv A22 C23 l21), (16, sv a9 b0 a8), (19, sv b3 a3 (a1.getD a2.toNat [])), (21, ia (IntKind.i64.wrap (b2 + 1))), (102, sv (some ⟨a7, 0, none⟩) 3 a1), (103, ia (a1.length : Int)), (104, ia a2)] (by kernel_rfl) ?_
     exact fun a ha => ⟨n, Nat.lt_succ_self n, IntKind.i64.wrap (b2 + 1), ha, (hS.re [3, 3, 3, 3] [] rfl (sub_cons 0 rfl (sub_cons 1 rfl (sub_cons 2 rfl (sub_cons 3 rfl (sub_cons 4 rfl (sub_cons 5 rfl (sub_cons 6 rfl (sub_cons 7 rfl (sub_tail (sub_tail (sub_tail (sub_tail (sub_tail (sub_tail (sub_tail (sub_tail (sub_self)))))))))))))))))), H⟩
    rw [if_neg c8] at H
    refine EW.exit (id := 5) (by kernel_rfl) ?_
    refine EQ.exitCode ?_
    refine EQ.exitTo ?_
    refine EQ.exitHere ?_
    refine EQ.pop ?_
    refine EQ.to ?_
    refine EQ.keep [4, 16, 102, 103, 104] [(4, sv A22 C23 l21), (16, sv a9 b0 a8), (102, sv (some ⟨a7, 0, none⟩) 3 a1), (103, ia (a1.length : Int)), (104, ia a2)] (by kernel_rfl) ?_
    exact fun a ha => ⟨c2, d2, d3, b8, c6, c7, d6, d9, d7, e0, ha, (hS.re [3, 3, 3, 3] [] rfl (sub_cons 0 rfl (sub_cons 2 rfl (sub_cons 3 rfl (sub_cons 4 rfl (sub_cons 5 rfl (sub_cons 6 rfl (sub_cons 7 rfl (sub_tail (sub_tail (sub_tail (sub_tail (sub_tail (sub_tail (sub_tail (sub_tail (sub_self))))))))))))))))), H⟩
   obtain ⟨m3, q0, q1, t1, m6, m9, q2, q6, q3, q7, ha, hS, H⟩ := hI
   rw [x5] at H
   (try dsimp only at H)
   refine EW.at ?_ a ha
   clear ha a
   refine EW.rg (by kernel_rfl) ?_
   refine EL.quick 2 [4, 16, 102, 103, 104] [(4, sv A22 C23 l21), (16, sv a9 b0 a8), (102, sv (some ⟨a7, 0, none⟩) 3 a1), (103, ia (a1.length : Int)), (104, ia (IntKind.i64.wrap (a2 + 1)))] (by kernel_rfl) ?_
   refine EL.done (by kernel_rfl) ?_
   refine EQ.to ?_
   refine EQ.keep [4, 16, 102, 103, 104] [(4, sv A22 C23 l21), (16, sv a9 b0 a8), (102, sv (some ⟨a7, 0, none⟩) 3 a1), (103, ia (a1.length : Int)), (104, ia (IntKind.i64.wrap (a2 + 1)))] (by kernel_rfl) ?_
   exact fun a ha => ⟨n, Nat.lt_succ_self n, a8, IntKind.i64.wrap (a2 + 1), a9, b0, ha, (hS.re [3] [1, 1, 1] rfl (sub_cons 2 rfl (sub_cons 3 rfl (sub_cons 4 rfl (sub_cons 5 rfl (sub_cons 6 rfl (sub_cons 1 rfl (sub_tail (sub_tail (sub_tail (sub_tail (sub_tail (sub_tail (sub_tail (sub_self))))))))))))))), H⟩
  rw [if_neg g7] at H
  refine EW.exit (id := 3) (by kernel_rfl) ?_
  refine EQ.exitCode ?_
  refine EQ.exitTo ?_
  refine EQ.exitHere ?_
  refine EQ.code ?_
  refine EW.sq (by kernel_rfl) ?_
  refine EW.rg (by kernel_rfl) ?_
  refine EL.quick 1 [12] [(12, .bool (true))] (by kernel_rfl) ?_
  refine EL.done (by kernel_rfl) ?_
  refine EQ.code ?_
  refine EW.ret (by kernel_rfl) ?_
  obtain rfl := Option.some.inj H
  exact EQ.leave (.bool (true)) (by kernel_rfl) ⟨_, rfl, rfl, (hS.re [] [0] rfl (sub_cons 4 rfl (sub_cons 3 rfl (sub_cons 5 rfl (sub_tail (sub_tail (sub_tail (sub_tail (sub_tail (sub_tail (sub_self)))))))))))⟩
 rw [if_neg n2] at H
 refine EW.sq (by kernel_rfl) ?_
 refine EW.rg (by kernel_rfl) ?_
 refine EL.quick 1 [12] [(12, .bool (false))] (by kernel_rfl) ?_
 refine EL.done (by kernel_rfl) ?_
 refine EQ.code ?_
 refine EW.ret (by kernel_rfl) ?_
 refine EQ.ret ?_
 obtain rfl := Option.some.inj H
 exact EQ.leave (.bool (false)) (by kernel_rfl) ⟨_, rfl, rfl, (hS.re [] [] rfl (sub_self))⟩

def okS28 (s : S28) : Prop := ((Lit.int .i64 s.f0).wf = true) ∧ ((Lit.int .i64 s.f1).wf = true) ∧ ((Lit.int .i64 s.f2).wf = true) ∧ ((Lit.int .i64 s.f3).wf = true) ∧ ((Lit.int .i32 s.f4).wf = true) ∧ ((Lit.int .i32 s.f5).wf = true) ∧ ((Lit.int .i32 s.f6).wf = true) ∧ True
theorem oS28 : Opens Tryd.prog 28 kS28 okS28 := Opens.struct (fun s : S28 => (s.f0, s.f1, s.f2, s.f3, s.f4, s.f5, s.f6, ())) (fun a => ⟨a.1, a.2.1, a.2.2.1, a.2.2.2.1, a.2.2.2.2.1, a.2.2.2.2.2.1, a.2.2.2.2.2.2.1⟩) (fun _ => rfl) Tryd.underlying28 (OpensF.cons (Opens.int Tryd.underlying3) (OpensF.cons (Opens.int Tryd.underlying3) (OpensF.cons (Opens.int Tryd.underlying3) (OpensF.cons (Opens.int Tryd.underlying3) (OpensF.cons (Opens.int Tryd.underlying21) (OpensF.cons (Opens.int Tryd.underlying21) (OpensF.cons (Opens.int Tryd.underlying21) OpensF.nil rfl (by kernel_rfl)) rfl (by kernel_rfl)) rfl (by kernel_rfl)) rfl (by kernel_rfl)) rfl (by kernel_rfl)) rfl (by kernel_rfl)) rfl (by kernel_rfl)) (by kernel_rfl)
def okS50 (s : S50) : Prop := ((Lit.int .u8 s.f0).wf = true) ∧ ((Lit.int .u8 s.f1).wf = true) ∧ ((Lit.int .u8 s.f2).wf = true) ∧ ((Lit.int .u8 s.f3).wf = true) ∧ True
theorem oS50 : Opens Tryd.prog 50 kS50 okS50 := Opens.array (fun s : S50 => (s.f0, s.f1, s.f2, s.f3, ())) (fun a => ⟨a.1, a.2.1, a.2.2.1, a.2.2.2.1⟩) (fun _ => rfl) Tryd.underlying50 (by kernel_rfl) (OpensA.cons (Opens.int Tryd.underlying5) (OpensA.cons (Opens.int Tryd.underlying5) (OpensA.cons (Opens.int Tryd.underlying5) (OpensA.cons (Opens.int Tryd.underlying5) OpensA.nil rfl) rfl) rfl) rfl) (by kernel_rfl)
def confidantlaw23_TraceTells.Pure : Prop := ∀ (l13 : List S28) (l16 : List S50) (a19 : Int) (a20 : Int) (l21 : List Int) (a24 : Int), l13.length * 48 ≤ 140737488351232 → (∀ x ∈ l13, okS28 x) → l16.length * 4 ≤ 140737488351232 → (∀ x ∈ l16, okS50 x) → (Lit.int .u8 a19).wf = true → (Lit.int .u8 a20).wf = true → l21.length * 8 ≤ 140737488351232 → (∀ x ∈ l21, (Lit.int .i64 x).wf = true) → (Lit.int .i64 a24).wf = true → ∃ K, confidantlaw23_TraceTells.f K l13 l16 a19 a20 l21 a24 = some true

end Go.Proofs.YtocdpimpkifdmaaDoor.G
