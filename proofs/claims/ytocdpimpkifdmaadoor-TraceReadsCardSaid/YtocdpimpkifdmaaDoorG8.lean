import Derived.Test.YtocdpimpkifdmaaDoorProg
import Derived.Test.YtocdpimpkifdmaaDoorFwShort
import Derived.Test.YtocdpimpkifdmaaDoorFwOpen
import Derived.Test.YtocdpimpkifdmaaDoorDoor
import Derived.Test.YtocdpimpkifdmaaDoorG0
import Derived.Test.YtocdpimpkifdmaaDoorG1
import Derived.Test.YtocdpimpkifdmaaDoorG3
import Derived.Test.YtocdpimpkifdmaaDoorG4
import Derived.Test.YtocdpimpkifdmaaDoorG7
namespace Go.Proofs.YtocdpimpkifdmaaDoor.G
open Go Go.Fw Go.RowKit Go.Proofs
set_option linter.unusedVariables false
set_option linter.unusedSimpArgs false

/-! ### confidant/confidantlaw23.TraceReads: function 4 -/
def confidantlaw23_TraceReads.l0 (K : Nat) (a0 : List (List Int)) (d8 : (List (List Int)) → Option Bool) : Nat → Int → Option Bool
 | 0, _ => none
 | n + 1, a7 => if a7 < (a0.length : Int) then (if 0 ≤ a7 then (b2 (trace_Read.f K (a0.getD a7.toNat [])) fun (b8 : List S28) (d6 : Int) => (b2 (confidantref21_EventsRead.f K (a0.getD a7.toNat [])) fun (c1 : List S28) (d9 : Int) => (lt (fun (f3 : Bool) => (if f3 = true then (some false) else (confidantlaw23_TraceReads.l0 K a0 d8 n (IntKind.i64.wrap (a7 + 1))))) fun g8 => (if d6 = d9 then (b1 (confidantref21_SameEvents.f K b8 c1) fun (e0 : Bool) => (g8 (!(e0)))) else (g8 true))))) else none) else (d8 a0)
def confidantlaw23_TraceReads.f (K : Nat) (l12 : List Int) (l15 : List S50) (a18 : Int) (a19 : Int) (l20 : List Int) : Option Bool := b1 (confidantlaw23_known.f K) fun (g0 : Bool) => (if g0 = true then (lt (fun (f2 : Bool) => (if f2 = true then (some true) else (b1 (confidantlaw23_some.f K l15) fun (a1 : List S28) => (b1 (confidantref21_EventsPut.f K a1) fun (a4 : List Int) => (if (([] : List Int).length + a4.length) * 1 ≤ 140737488355328 then (lt (([] : List Int) ++ a4) fun b0 => (if (b0.length : Int) = 0 then none else (if 0 ≤ (Int.tmod (IntKind.i64.wrap a18) (b0.length : Int)) then (if (Int.tmod (IntKind.i64.wrap a18) (b0.length : Int)) < (b0.length : Int) then (lt (b0.set (Int.tmod (IntKind.i64.wrap a18) (b0.length : Int)).toNat (bX .u8 (b0.getD (Int.tmod (IntKind.i64.wrap a18) (b0.length : Int)).toNat 0) a19)) fun b3 => (lt (fun (e2 : List (List Int)) => (b1 (trace_Put.f K a1) fun (g1 : List Int) => (b2 (trace_Read.f K g1) fun (c4 : List S28) (e1 : Int) => (if e1 = 0 then (b1 (confidantref21_SameEvents.f K a1 c4) fun (g9 : Bool) => (some g9)) else (some false))))) fun d8 => (if (a4.length : Int) = 0 then none else (if 0 ≤ (Int.tmod (IntKind.i64.wrap a18) (a4.length : Int)) then (if (Int.tmod (IntKind.i64.wrap a18) (a4.length : Int)) ≤ (a4.length : Int) then (lt (a4.take ((Int.tmod (IntKind.i64.wrap a18) (a4.length : Int)).toNat)) fun b7 => (if (([] : List Int).length + a4.length) * 1 ≤ 140737488355328 then (lt (([] : List Int) ++ a4) fun c7 => (if (c7.length + l20.length) * 1 ≤ 140737488355328 then (lt (c7 ++ l20) fun b5 => (lt ([l12, a4, b3, b7, b5] : List (List Int)) fun a0 => (confidantlaw23_TraceReads.l0 K a0 d8 K 0))) else none)) else none)) else none) else none)))) else none) else none))) else none))))) fun f9 => (if (l12.length : Int) > 80 then (f9 true) else (if (l15.length : Int) > 20 then (f9 true) else (f9 (decide ((l20.length : Int) > 8)))))) else (some false))
set_option maxRecDepth 100000 in
theorem confidantlaw23_TraceReads.calls {K : Nat} {l12 : List Int} {l15 : List S50} {a18 : Int} {a19 : Int} {l20 : List Int} {A13 : Option Addr} {C14 : Nat} {A16 : Option Addr} {C17 : Nat} {A21 : Option Addr} {C22 : Nat} {f1 : Bool} {B w : World} {os : List Ass} {rs : List Ro} (H : confidantlaw23_TraceReads.f K l12 l15 a18 a19 l20 = some f1) (hS : St B w (os) (Ro.sl (Kd.int .u8) A13 C14 l12 :: Ro.sl kS50 A16 C17 l15 :: Ro.sl (Kd.int .u8) A21 C22 l20 :: rs)) (gB : Glob B) :
  Calls Tryd.prog 4 [sv A13 C14 l12, sv A16 C17 l15, .int .u16 a18, ig a19, sv A21 C22 l20].toArray w (fun en w' => ∃ v, en = .returned v ∧ v = .bool (f1) ∧ St B w' (os) (Ro.sl (Kd.int .u8) A13 C14 l12 :: Ro.sl kS50 A16 C17 l15 :: Ro.sl (Kd.int .u8) A21 C22 l20 :: rs)) := by
 unfold confidantlaw23_TraceReads.f at H
 refine calls_of_EW (args := [sv A13 C14 l12, sv A16 C17 l15, .int .u16 a18, ig a19, sv A21 C22 l20]) (c := Cd4) 107 Tryd.func4 (by kernel_rfl) (by kernel_rfl) (by kernel_rfl) ?_
 refine EW.sq (by kernel_rfl) ?_
 refine EW.rg (by kernel_rfl) ?_
 refine EL.quick 1 [0, 1, 2, 3, 4] [(0, sv A13 C14 l12), (1, sv A16 C17 l15), (2, .int .u16 a18), (3, ig a19), (4, sv A21 C22 l20)] (by kernel_rfl) ?_
 refine EL.done (by kernel_rfl) ?_
 refine EQ.code ?_
 refine EW.sq (by kernel_rfl) ?_
 refine EW.sq (by kernel_rfl) ?_
 refine EW.rg (by kernel_rfl) ?_
 obtain ⟨g0, m0, H⟩ := b1_out H
 have hq := confidantlaw23_known.calls m0 hS gB
 refine EL.of (EO.callD 11 [] _ 22 (by kernel_rfl) (by kernel_rfl) (by kernel_rfl) hq ?_)
 rintro v w ⟨rfl, hS⟩
 refine EL.quick 1 [0, 1, 2, 3, 4, 23] [(0, sv A13 C14 l12), (1, sv A16 C17 l15), (2, .int .u16 a18), (3, ig a19), (4, sv A21 C22 l20), (23, .bool (!(g0)))] (by kernel_rfl) ?_
 refine EL.done (by kernel_rfl) ?_
 refine EQ.code ?_
 refine EW.cdQ (b := !(g0)) (g0 = true) (false) (by kernel_rfl) (by kernel_rfl) ⟨fun h => (by rw [h] <;> rfl), fun h => (by rw [Bool.eq_false_iff.2 h] <;> rfl)⟩ (fun i7 => ?_) (fun i7 => ?_)
 ·rw [if_pos i7] at H
  refine EW.skip (by kernel_rfl) ?_
  refine EQ.code ?_
  refine EW.sq (by kernel_rfl) ?_
  obtain ⟨f9, m9, H⟩ := lt_out H
  refine EW.ct (fun a w => ∃ f2 : Bool, Sat 107 [(0, sv A13 C14 l12), (1, sv A16 C17 l15), (2, .int .u16 a18), (3, ig a19), (4, sv A21 C22 l20), (36, .bool (f2))] a ∧ St B w (os) (Ro.sl (Kd.int .u8) A13 C14 l12 :: Ro.sl kS50 A16 C17 l15 :: Ro.sl (Kd.int .u8) A21 C22 l20 :: rs) ∧ f9 f2 = some f1) (by kernel_rfl) ?_ (fun a w hI => ?_)
  ·refine EW.rg (by kernel_rfl) ?_
   refine EL.quick 4 [0, 1, 2, 3, 4, 27] [(0, sv A13 C14 l12), (1, sv A16 C17 l15), (2, .int .u16 a18), (3, ig a19), (4, sv A21 C22 l20), (27, .bool (decide ((l12.length : Int) > 80)))] (by kernel_rfl) ?_
   by_cases g4 : (l12.length : Int) > 80
   ·rw [if_pos g4] at H
    refine EL.keep [0, 1, 2, 3, 4, 27] [(0, sv A13 C14 l12), (1, sv A16 C17 l15), (2, .int .u16 a18), (3, ig a19), (4, sv A21 C22 l20), (27, .bool (decide ((l12.length : Int) > 80)))] (by kernel_rfl) ?_
    refine EL.as' [(0, sv A13 C14 l12), (1, sv A16 C17 l15), (2, .int .u16 a18), (3, ig a19), (4, sv A21 C22 l20), (27, .bool (true))] (by simp only [sv, dec_t g4, Bool.not_true, Bool.not_false]) ?_
    refine EL.quick 9 [0, 1, 2, 3, 4, 36] [(0, sv A13 C14 l12), (1, sv A16 C17 l15), (2, .int .u16 a18), (3, ig a19), (4, sv A21 C22 l20), (36, .bool (true))] (by kernel_rfl) ?_
    refine EL.done (by kernel_rfl) ?_
    refine EQ.to ?_
    refine EQ.keep [0, 1, 2, 3, 4, 36] [(0, sv A13 C14 l12), (1, sv A16 C17 l15), (2, .int .u16 a18), (3, ig a19), (4, sv A21 C22 l20), (36, .bool (true))] (by kernel_rfl) ?_
    exact fun a ha => ⟨true, ha, (hS.re [] [] rfl (sub_cons 0 rfl (sub_cons 1 rfl (sub_cons 2 rfl (sub_tail (sub_tail (sub_tail (sub_self)))))))), H⟩
   rw [if_neg g4] at H
   refine EL.keep [0, 1, 2, 3, 4, 27] [(0, sv A13 C14 l12), (1, sv A16 C17 l15), (2, .int .u16 a18), (3, ig a19), (4, sv A21 C22 l20), (27, .bool (decide ((l12.length : Int) > 80)))] (by kernel_rfl) ?_
   refine EL.as' [(0, sv A13 C14 l12), (1, sv A16 C17 l15), (2, .int .u16 a18), (3, ig a19), (4, sv A21 C22 l20), (27, .bool (false))] (by simp only [sv, dec_f g4, Bool.not_true, Bool.not_false]) ?_
   refine EL.quick 5 [0, 1, 2, 3, 4, 32] [(0, sv A13 C14 l12), (1, sv A16 C17 l15), (2, .int .u16 a18), (3, ig a19), (4, sv A21 C22 l20), (32, .bool (decide ((l15.length : Int) > 20)))] (by kernel_rfl) ?_
   by_cases g5 : (l15.length : Int) > 20
   ·rw [if_pos g5] at H
    refine EL.keep [0, 1, 2, 3, 4, 32] [(0, sv A13 C14 l12), (1, sv A16 C17 l15), (2, .int .u16 a18), (3, ig a19), (4, sv A21 C22 l20), (32, .bool (decide ((l15.length : Int) > 20)))] (by kernel_rfl) ?_
    refine EL.as' [(0, sv A13 C14 l12), (1, sv A16 C17 l15), (2, .int .u16 a18), (3, ig a19), (4, sv A21 C22 l20), (32, .bool (true))] (by simp only [sv, dec_t g5, Bool.not_true, Bool.not_false]) ?_
    refine EL.quick 4 [0, 1, 2, 3, 4, 36] [(0, sv A13 C14 l12), (1, sv A16 C17 l15), (2, .int .u16 a18), (3, ig a19), (4, sv A21 C22 l20), (36, .bool (true))] (by kernel_rfl) ?_
    refine EL.done (by kernel_rfl) ?_
    refine EQ.to ?_
    refine EQ.keep [0, 1, 2, 3, 4, 36] [(0, sv A13 C14 l12), (1, sv A16 C17 l15), (2, .int .u16 a18), (3, ig a19), (4, sv A21 C22 l20), (36, .bool (true))] (by kernel_rfl) ?_
    exact fun a ha => ⟨true, ha, (hS.re [] [] rfl (sub_cons 0 rfl (sub_cons 1 rfl (sub_cons 2 rfl (sub_tail (sub_tail (sub_tail (sub_self)))))))), H⟩
   rw [if_neg g5] at H
   refine EL.keep [0, 1, 2, 3, 4, 32] [(0, sv A13 C14 l12), (1, sv A16 C17 l15), (2, .int .u16 a18), (3, ig a19), (4, sv A21 C22 l20), (32, .bool (decide ((l15.length : Int) > 20)))] (by kernel_rfl) ?_
   refine EL.as' [(0, sv A13 C14 l12), (1, sv A16 C17 l15), (2, .int .u16 a18), (3, ig a19), (4, sv A21 C22 l20), (32, .bool (false))] (by simp only [sv, dec_f g5, Bool.not_true, Bool.not_false]) ?_
   refine EL.quick 4 [0, 1, 2, 3, 4, 36] [(0, sv A13 C14 l12), (1, sv A16 C17 l15), (2, .int .u16 a18), (3, ig a19), (4, sv A21 C22 l20), (36, .bool (decide ((l20.length : Int) > 8)))] (by kernel_rfl) ?_
   refine EL.done (by kernel_rfl) ?_
   refine EQ.to ?_
   refine EQ.keep [0, 1, 2, 3, 4, 36] [(0, sv A13 C14 l12), (1, sv A16 C17 l15), (2, .int .u16 a18), (3, ig a19), (4, sv A21 C22 l20), (36, .bool (decide ((l20.length : Int) > 8)))] (by kernel_rfl) ?_
   exact fun a ha => ⟨decide ((l20.length : Int) > 8), ha, (hS.re [] [] rfl (sub_cons 0 rfl (sub_cons 1 rfl (sub_cons 2 rfl (sub_tail (sub_tail (sub_tail (sub_self)))))))), H⟩
  obtain ⟨f2, ha, hS, H⟩ := hI
  rw [m9] at H
  (try dsimp only at H)
  refine EW.at ?_ a ha
  clear ha a
  refine EW.cdP' (f2) (by kernel_rfl) (by kernel_rfl) (fun i8 => ?_) (fun i8 => ?_)
  ·rw [if_pos i8] at H
   refine EW.sq (by kernel_rfl) ?_
   refine EW.rg (by kernel_rfl) ?_
   refine EL.quick 1 [10] [(10, .bool (true))] (by kernel_rfl) ?_
   refine EL.done (by kernel_rfl) ?_
   refine EQ.code ?_
   refine EW.ret (by kernel_rfl) ?_
   refine EQ.ret ?_
   obtain rfl := Option.some.inj H
   exact EQ.leave (.bool (true)) (by kernel_rfl) ⟨_, rfl, rfl, (hS.re [] [] rfl (sub_self))⟩
  rw [if_neg i8] at H
  refine EW.skip (by kernel_rfl) ?_
  refine EQ.code ?_
  refine EW.sq (by kernel_rfl) ?_
  refine EW.rg (by kernel_rfl) ?_
  refine EL.quick 1 [0, 2, 3, 4, 37] [(0, sv A13 C14 l12), (2, .int .u16 a18), (3, ig a19), (4, sv A21 C22 l20), (37, sv A16 C17 l15)] (by kernel_rfl) ?_
  have hS : St B _ (os) (Ro.sl kS50 A16 C17 l15 :: Ro.sl (Kd.int .u8) A13 C14 l12 :: Ro.sl (Kd.int .u8) A21 C22 l20 :: rs) := hS.re [] [] rfl (sub_cons 1 rfl (sub_cons 0 rfl (sub_tail (sub_tail (sub_self)))))
  obtain ⟨a1, m1, H⟩ := b1_out H
  have hq := confidantlaw23_some.calls m1 hS
  refine EL.of (EO.callD 12 [sv A16 C17 l15] _ 38 (by kernel_rfl) (by kernel_rfl) (by kernel_rfl) hq ?_)
  rintro v w ⟨a2, a3, rfl, hS⟩
  refine EL.quick 1 [0, 2, 3, 4, 11] [(0, sv A13 C14 l12), (2, .int .u16 a18), (3, ig a19), (4, sv A21 C22 l20), (11, sv a2 a3 a1)] (by kernel_rfl) ?_
  refine EL.done (by kernel_rfl) ?_
  refine EQ.code ?_
  refine EW.sq (by kernel_rfl) ?_
  refine EW.rg (by kernel_rfl) ?_
  refine EL.quick 1 [0, 2, 3, 4, 11, 39] [(0, sv A13 C14 l12), (2, .int .u16 a18), (3, ig a19), (4, sv A21 C22 l20), (11, sv a2 a3 a1), (39, sv a2 a3 a1)] (by kernel_rfl) ?_
  have hS := St.fr hS 0 rfl
  have hS : St B _ (os) (Ro.sl kS28 a2 a3 a1 :: Ro.sl kS50 A16 C17 l15 :: Ro.sl (Kd.int .u8) A13 C14 l12 :: Ro.sl (Kd.int .u8) A21 C22 l20 :: rs) := hS.re [] [] rfl (sub_cons 0 rfl (sub_tail (sub_self)))
  obtain ⟨a4, m2, H⟩ := b1_out H
  have hq := confidantref21_EventsPut.calls m2 hS
  refine EL.of (EO.callD 16 [sv a2 a3 a1] _ 40 (by kernel_rfl) (by kernel_rfl) (by kernel_rfl) hq ?_)
  rintro v w ⟨a8, a5, rfl, hS⟩
  refine EL.quick 1 [0, 2, 3, 4, 11, 12] [(0, sv A13 C14 l12), (2, .int .u16 a18), (3, ig a19), (4, sv A21 C22 l20), (11, sv a2 a3 a1), (12, sv a8 a5 a4)] (by kernel_rfl) ?_
  refine EL.done (by kernel_rfl) ?_
  refine EQ.code ?_
  refine EW.sq (by kernel_rfl) ?_
  refine EW.rg (by kernel_rfl) ?_
  refine EL.quick 1 [0, 2, 3, 4, 11, 12, 41] [(0, sv A13 C14 l12), (2, .int .u16 a18), (3, ig a19), (4, sv A21 C22 l20), (11, sv a2 a3 a1), (12, sv a8 a5 a4), (41, sv a8 a5 a4)] (by kernel_rfl) ?_
  have hS := St.nilO hS 5 (Kd.int .u8)
  obtain ⟨j7, H⟩ := ite_in H
  obtain ⟨b0, n2, H⟩ := lt_out H
  refine EL.of (EO.append hS 33 33 5 1 0 (Kd.int .u8) none 0 ([] : List Int) rfl a8 a5 a4 (Rd.own 1 5 rfl) b0 n2 (fun f4 a6 => Ass.own 5 (Kd.int .u8) f4 a6 b0 :: Ass.own 5 (Kd.int .u8) a8 a5 a4 :: os) 42 (by kernel_rfl) (by kernel_rfl) (by kernel_rfl) (by kernel_rfl) j7 (fun _ _ => rfl) ?_)
  intro f4 a6 w hS
  refine EL.quick 1 [0, 2, 3, 4, 11, 12, 13] [(0, sv A13 C14 l12), (2, .int .u16 a18), (3, ig a19), (4, sv A21 C22 l20), (11, sv a2 a3 a1), (12, sv a8 a5 a4), (13, sv f4 a6 b0)] (by kernel_rfl) ?_
  refine EL.done (by kernel_rfl) ?_
  refine EQ.code ?_
  refine EW.sq (by kernel_rfl) ?_
  refine EW.rg (by kernel_rfl) ?_
  refine EL.quick 5 [0, 2, 3, 4, 11, 12, 13, 43, 45, 47] [(0, sv A13 C14 l12), (2, .int .u16 a18), (3, ig a19), (4, sv A21 C22 l20), (11, sv a2 a3 a1), (12, sv a8 a5 a4), (13, sv f4 a6 b0), (43, sv f4 a6 b0), (45, ia (IntKind.i64.wrap a18)), (47, ia (b0.length : Int))] (by kernel_rfl) ?_
  obtain ⟨j8, H⟩ := ite_out H
  refine EL.of (EO.Y (YO.div .rem .i64 (IntKind.i64.wrap a18) (b0.length : Int) (Int.tmod (IntKind.i64.wrap a18) (b0.length : Int)) 48 (by kernel_rfl) (by kernel_rfl) (by kernel_rfl) j8 (by first | exact .inl ⟨rfl, rfl⟩ | exact .inr ⟨rfl, rfl⟩)) ?_)
  obtain ⟨f7, H⟩ := ite_in H
  obtain ⟨f8, H⟩ := ite_in H
  obtain ⟨a9, rfl⟩ := St.rd_some hS (Rd.own 0 5 rfl) f7 f8
  refine EL.of (EO.Y (YO.idx 33 1 a9 b0.length a6 .i64 (Int.tmod (IntKind.i64.wrap a18) (b0.length : Int)) 49 (by kernel_rfl) (by kernel_rfl) (by kernel_rfl) (by kernel_rfl) f7 f8) ?_)
  refine EL.of (EO.Y (YO.loadEl hS (Kd.int .u8) a9 a6 b0 (Rd.own 0 5 rfl) 0 (encI .u8) encI_of (Int.tmod (IntKind.i64.wrap a18) (b0.length : Int)) f7 f8 5 1 0 1 rfl (ig (b0.getD (Int.tmod (IntKind.i64.wrap a18) (b0.length : Int)).toNat 0)) 50 (by kernel_rfl) (by kernel_rfl) (by kernel_rfl) (by kernel_rfl)) ?_)
  refine EL.quick 2 [0, 2, 4, 11, 12, 13, 43, 48, 52] [(0, sv A13 C14 l12), (2, .int .u16 a18), (4, sv A21 C22 l20), (11, sv a2 a3 a1), (12, sv a8 a5 a4), (13, sv (some a9) a6 b0), (43, sv (some a9) a6 b0), (48, ia (Int.tmod (IntKind.i64.wrap a18) (b0.length : Int))), (52, ig (bX .u8 (b0.getD (Int.tmod (IntKind.i64.wrap a18) (b0.length : Int)).toNat 0) a19))] (by kernel_rfl) ?_
  refine EL.of (EO.Y (YO.idx 33 1 a9 b0.length a6 .i64 (Int.tmod (IntKind.i64.wrap a18) (b0.length : Int)) 53 (by kernel_rfl) (by kernel_rfl) (by kernel_rfl) (by kernel_rfl) f7 f8) ?_)
  obtain ⟨b3, j5, H⟩ := lt_out H
  refine EL.of (EO.storeEl hS 0 (Kd.int .u8) 5 a9 a6 b0 rfl (Int.tmod (IntKind.i64.wrap a18) (b0.length : Int)) f7 f8 0 5 1 0 rfl (ig (bX .u8 (b0.getD (Int.tmod (IntKind.i64.wrap a18) (b0.length : Int)).toNat 0) a19)) (bX .u8 (b0.getD (Int.tmod (IntKind.i64.wrap a18) (b0.length : Int)).toNat 0) a19) b3 j5 (Ass.own 5 (Kd.int .u8) (some a9) a6 b3 :: Ass.own 5 (Kd.int .u8) a8 a5 a4 :: os) (by kernel_rfl) (by kernel_rfl) (by kernel_rfl) (by kernel_rfl) (by kernel_rfl) (by kernel_rfl) (fun w G vs hr h => set_whole h (by kernel_rfl) rfl) rfl ?_)
  intro w hS
  refine EL.keep [0, 2, 4, 11, 12, 13] [(0, sv A13 C14 l12), (2, .int .u16 a18), (4, sv A21 C22 l20), (11, sv a2 a3 a1), (12, sv a8 a5 a4), (13, sv (some a9) a6 b0)] (by kernel_rfl) ?_
  refine EL.as' [(0, sv A13 C14 l12), (2, .int .u16 a18), (4, sv A21 C22 l20), (11, sv a2 a3 a1), (12, sv a8 a5 a4), (13, sv (some a9) a6 b3)] (by simp only [sv, j5, List.length_set]) ?_
  refine EL.done (by kernel_rfl) ?_
  refine EQ.code ?_
  obtain ⟨d8, n0, H⟩ := lt_out H
  refine EW.ct (fun a w => ∃ e2 : List (List Int), ∃ f5 : Option Addr, ∃ f6 : Nat, Sat 107 [(11, sv a2 a3 a1)] a ∧ St B w (Ass.own 33 (Kd.slice (Kd.int .u8)) f5 f6 e2 :: os) (Ro.sl (Kd.int .u8) (some a9) a6 b3 :: Ro.sl (Kd.int .u8) a8 a5 a4 :: Ro.sl kS28 a2 a3 a1 :: Ro.sl kS50 A16 C17 l15 :: Ro.sl (Kd.int .u8) A13 C14 l12 :: Ro.sl (Kd.int .u8) A21 C22 l20 :: rs) ∧ d8 e2 = some f1) (by kernel_rfl) ?_ (fun a w hI => ?_)
  ·refine EW.sq (by kernel_rfl) ?_
   obtain ⟨j9, H⟩ := ite_out H
   obtain ⟨n3, H⟩ := ite_in H
   obtain ⟨n4, H⟩ := ite_in H
   obtain ⟨b7, j2, H⟩ := lt_out H
   obtain ⟨j4, H⟩ := ite_in H
   obtain ⟨c7, j6, H⟩ := lt_out H
   obtain ⟨i9, H⟩ := ite_in H
   obtain ⟨b5, j3, H⟩ := lt_out H
   obtain ⟨a0, f0, H⟩ := lt_out H
   refine EW.mt (fun a w => ∃ d7 : Option Addr, ∃ b4 : Nat, Sat 107 [(11, sv a2 a3 a1), (68, sv d7 b4 a0), (69, ia (a0.length : Int)), (70, ia 0)] a ∧ St B w (Ass.own 33 (Kd.slice (Kd.int .u8)) d7 b4 a0 :: os) (Ro.sl (Kd.int .u8) (some a9) a6 b3 :: Ro.sl (Kd.int .u8) a8 a5 a4 :: Ro.sl kS28 a2 a3 a1 :: Ro.sl kS50 A16 C17 l15 :: Ro.sl (Kd.int .u8) A13 C14 l12 :: Ro.sl (Kd.int .u8) A21 C22 l20 :: rs)) (by kernel_rfl) ?_ (fun a w hI => ?_)
   ·have hS := hS.drew
    refine EW.dr (B := B) [] [Ro.sl kS28 a2 a3 a1, Ro.sl kS50 A16 C17 l15, Ro.sl (Kd.int .u8) A13 C14 l12, Ro.sl (Kd.int .u8) A21 C22 l20] (by kernel_rfl) (by kernel_rfl) ?_
    have hN : Region.noSelect Cd4.r.r.r.r.r.r.r.l.l.ops = true := (by kernel_rfl)
    have hF : freeAll Cd4.r.r.r.r.r.r.r.l.l.ops = true := (by kernel_rfl)
    have hC : Core B [] [Ro.sl kS28 a2 a3 a1, Ro.sl kS50 A16 C17 l15, Ro.sl (Kd.int .u8) A13 C14 l12, Ro.sl (Kd.int .u8) A21 C22 l20] _ := ⟨_, _, hS⟩
    refine ED.quick hN hF hC [0, 1, 2, 3, 4, 5, 6, 7, 10, 12, 16] [11, 54, 55, 56, 57, 59, 61, 64, 66, 70] 6 [(11, sv a2 a3 a1), (54, sv A13 C14 l12), (55, sv a8 a5 a4), (56, sv (some a9) a6 b3), (57, sv a8 a5 a4), (59, ia (IntKind.i64.wrap a18)), (61, ia (a4.length : Int)), (64, sv a8 a5 a4), (66, sv A21 C22 l20), (70, ia 0)] (bm 17 70911) (by kernel_rfl) (by kernel_rfl) ?_
    refine ED.Y hN hF hC 8 5 (bm 17 71167) (by kernel_rfl) (by kernel_rfl) rfl (fun _ _ _ hS => YO.div .rem .i64 (IntKind.i64.wrap a18) (a4.length : Int) (Int.tmod (IntKind.i64.wrap a18) (a4.length : Int)) 62 (by kernel_rfl) (by kernel_rfl) (by kernel_rfl) j9 (by first | exact .inl ⟨rfl, rfl⟩ | exact .inr ⟨rfl, rfl⟩)) ?_
    refine ED.two 9 11 4 (by kernel_rfl) (by kernel_rfl) ?_ ?_
    ·have hS := St.fr hS 1 rfl
     refine EO.sliceRo hS (Kd.int .u8) a8 a5 a4 0 rfl none (some (ia (Int.tmod (IntKind.i64.wrap a18) (a4.length : Int)))) none 0 ((Int.tmod (IntKind.i64.wrap a18) (a4.length : Int)).toNat) a5 b7 (by rw [j2]; exact (slice_hi _ _)) 33 63 (by kernel_rfl) (by kernel_rfl) (by kernel_rfl) (by kernel_rfl) (rfl) ((Int.toNat_of_nonneg (by omega)).symm) ⟨rfl, fun h => by first | rfl | cases h⟩ (by omega) (by omega) (.inl rfl) ?_
     intro e3 e6 hS
     have hC := hC.again ⟨_, _, hS.re [] [] rfl (sub_cons 2 rfl (sub_cons 3 rfl (sub_cons 4 rfl (sub_cons 5 rfl sub_self))))⟩
     refine ⟨hC, ?_⟩
     refine ED.at' (bm 17 71679) (by kernel_rfl) ?_
     have hS := St.nilO hS 5 (Kd.int .u8)
     refine ED.one 11 3 (bm 17 73727) (by kernel_rfl) (by kernel_rfl) (by kernel_rfl) (EO.append hS 33 33 5 1 0 (Kd.int .u8) none 0 ([] : List Int) rfl a8 a5 a4 (Rd.ro 1 rfl) c7 j6 (fun i0 i2 => Ass.own 5 (Kd.int .u8) i0 i2 c7 :: Ass.own 5 (Kd.int .u8) (some a9) a6 b3 :: os) 65 (by kernel_rfl) (by kernel_rfl) (by kernel_rfl) (by kernel_rfl) j4 (fun _ _ => rfl) ?_)
     intro i0 i2 w hS
     have hC := hC.again ⟨_, _, hS.re [] [] rfl (sub_cons 2 rfl (sub_cons 3 rfl (sub_cons 4 rfl (sub_cons 5 rfl sub_self))))⟩
     refine ⟨hC, ?_⟩
     refine ED.one 13 2 (bm 17 81919) (by kernel_rfl) (by kernel_rfl) (by kernel_rfl) (EO.append hS 33 33 5 1 0 (Kd.int .u8) i0 i2 c7 rfl A21 C22 l20 (Rd.ro 5 rfl) b5 j3 (fun c8 d2 => Ass.own 5 (Kd.int .u8) c8 d2 b5 :: Ass.own 5 (Kd.int .u8) (some a9) a6 b3 :: os) 67 (by kernel_rfl) (by kernel_rfl) (by kernel_rfl) (by kernel_rfl) i9 (fun _ _ => rfl) ?_)
     intro c8 d2 w hS
     have hC := hC.again ⟨_, _, hS.re [] [] rfl (sub_cons 2 rfl (sub_cons 3 rfl (sub_cons 4 rfl (sub_cons 5 rfl sub_self))))⟩
     refine ⟨hC, ?_⟩
     have hS := St.fr hS 1 rfl
     have hS := St.fr hS 0 rfl
     refine ED.one 14 1 (bm 17 98303) (by kernel_rfl) (by kernel_rfl) (by kernel_rfl) (EO.lit hS (Kd.slice (Kd.int .u8)) 33 42 5 #[(0, sv A13 C14 l12), (1, sv a8 a5 a4), (2, sv (some a9) a6 b3), (3, sv e3 e6 b7), (4, sv c8 d2 b5)] [sv A13 C14 l12, sv a8 a5 a4, sv (some a9) a6 b3, sv e3 e6 b7, sv c8 d2 b5] a0 68 (by kernel_rfl) (by kernel_rfl) (by kernel_rfl) (fun _ => (by kernel_rfl)) (by rw [f0]; rfl) (by kernel_rfl) (fun w G hr => (by rw [f0]; exact ⟨[sv A13 C14 l12], [sv a8 a5 a4, sv (some a9) a6 b3, sv e3 e6 b7, sv c8 d2 b5], rfl, (hr _ (List.mem_of_getElem? (i := 6) rfl)), ⟨[sv a8 a5 a4], [sv (some a9) a6 b3, sv e3 e6 b7, sv c8 d2 b5], rfl, (hr _ (List.mem_of_getElem? (i := 3) rfl)), ⟨[sv (some a9) a6 b3], [sv e3 e6 b7, sv c8 d2 b5], rfl, (hr _ (List.mem_of_getElem? (i := 1) rfl)), ⟨[sv e3 e6 b7], [sv c8 d2 b5], rfl, (hr _ (List.mem_of_getElem? (i := 2) rfl)), ⟨[sv c8 d2 b5], [], rfl, (hr _ (List.mem_of_getElem? (i := 0) rfl)), rfl⟩⟩⟩⟩⟩)) ?_)
     intro i4 w hS
     have hC := hC.again ⟨_, _, hS.re [] [] rfl (sub_cons 4 rfl (sub_cons 5 rfl (sub_cons 6 rfl (sub_cons 7 rfl sub_self))))⟩
     refine ⟨hC, ?_⟩
     refine ED.quick hN hF hC [15] [11, 68, 69, 70] 0 [(11, sv a2 a3 a1), (68, sv (some ⟨i4, 0, none⟩) 5 a0), (69, ia (a0.length : Int)), (70, ia 0)] (bm 17 131071) (by kernel_rfl) (by kernel_rfl) ?_
     refine ED.done (by kernel_rfl) ?_
     refine EQ.to ?_
     refine EQ.keep [11, 68, 69, 70] [(11, sv a2 a3 a1), (68, sv (some ⟨i4, 0, none⟩) 5 a0), (69, ia (a0.length : Int)), (70, ia 0)] (by kernel_rfl) ?_
     exact fun a ha => ⟨(some ⟨i4, 0, none⟩), 5, ha, (hS.re [0] [] rfl (sub_cons 1 rfl (sub_cons 3 rfl (sub_cons 4 rfl (sub_cons 5 rfl (sub_cons 6 rfl (sub_cons 7 rfl (sub_tail (sub_tail (sub_tail (sub_tail (sub_tail (sub_tail (sub_tail (sub_tail (sub_self))))))))))))))))⟩
    ·have hS := St.nilO hS 5 (Kd.int .u8)
     refine EO.append hS 33 33 5 1 0 (Kd.int .u8) none 0 ([] : List Int) rfl a8 a5 a4 (Rd.own 2 5 rfl) c7 j6 (fun g2 g3 => Ass.own 5 (Kd.int .u8) g2 g3 c7 :: Ass.own 5 (Kd.int .u8) (some a9) a6 b3 :: Ass.own 5 (Kd.int .u8) a8 a5 a4 :: os) 65 (by kernel_rfl) (by kernel_rfl) (by kernel_rfl) (by kernel_rfl) j4 (fun _ _ => rfl) ?_
     intro g2 g3 w hS
     have hC := hC.again ⟨_, _, hS⟩
     refine ⟨hC, ?_⟩
     refine ED.at' (bm 17 73215) (by kernel_rfl) ?_
     refine ED.two 9 13 3 (by kernel_rfl) (by kernel_rfl) ?_ ?_
     ·have hS := St.fr hS 2 rfl
      refine EO.sliceRo hS (Kd.int .u8) a8 a5 a4 0 rfl none (some (ia (Int.tmod (IntKind.i64.wrap a18) (a4.length : Int)))) none 0 ((Int.tmod (IntKind.i64.wrap a18) (a4.length : Int)).toNat) a5 b7 (by rw [j2]; exact (slice_hi _ _)) 33 63 (by kernel_rfl) (by kernel_rfl) (by kernel_rfl) (by kernel_rfl) (rfl) ((Int.toNat_of_nonneg (by omega)).symm) ⟨rfl, fun h => by first | rfl | cases h⟩ (by omega) (by omega) (.inl rfl) ?_
      intro e4 e7 hS
      have hC := hC.again ⟨_, _, hS.re [] [] rfl (sub_cons 2 rfl (sub_cons 3 rfl (sub_cons 4 rfl (sub_cons 5 rfl sub_self))))⟩
      refine ⟨hC, ?_⟩
      refine ED.at' (bm 17 73727) (by kernel_rfl) ?_
      refine ED.one 13 2 (bm 17 81919) (by kernel_rfl) (by kernel_rfl) (by kernel_rfl) (EO.append hS 33 33 5 1 0 (Kd.int .u8) g2 g3 c7 rfl A21 C22 l20 (Rd.ro 5 rfl) b5 j3 (fun c9 d3 => Ass.own 5 (Kd.int .u8) c9 d3 b5 :: Ass.own 5 (Kd.int .u8) (some a9) a6 b3 :: os) 67 (by kernel_rfl) (by kernel_rfl) (by kernel_rfl) (by kernel_rfl) i9 (fun _ _ => rfl) ?_)
      intro c9 d3 w hS
      have hC := hC.again ⟨_, _, hS.re [] [] rfl (sub_cons 2 rfl (sub_cons 3 rfl (sub_cons 4 rfl (sub_cons 5 rfl sub_self))))⟩
      refine ⟨hC, ?_⟩
      have hS := St.fr hS 1 rfl
      have hS := St.fr hS 0 rfl
      refine ED.one 14 1 (bm 17 98303) (by kernel_rfl) (by kernel_rfl) (by kernel_rfl) (EO.lit hS (Kd.slice (Kd.int .u8)) 33 42 5 #[(0, sv A13 C14 l12), (1, sv a8 a5 a4), (2, sv (some a9) a6 b3), (3, sv e4 e7 b7), (4, sv c9 d3 b5)] [sv A13 C14 l12, sv a8 a5 a4, sv (some a9) a6 b3, sv e4 e7 b7, sv c9 d3 b5] a0 68 (by kernel_rfl) (by kernel_rfl) (by kernel_rfl) (fun _ => (by kernel_rfl)) (by rw [f0]; rfl) (by kernel_rfl) (fun w G hr => (by rw [f0]; exact ⟨[sv A13 C14 l12], [sv a8 a5 a4, sv (some a9) a6 b3, sv e4 e7 b7, sv c9 d3 b5], rfl, (hr _ (List.mem_of_getElem? (i := 6) rfl)), ⟨[sv a8 a5 a4], [sv (some a9) a6 b3, sv e4 e7 b7, sv c9 d3 b5], rfl, (hr _ (List.mem_of_getElem? (i := 3) rfl)), ⟨[sv (some a9) a6 b3], [sv e4 e7 b7, sv c9 d3 b5], rfl, (hr _ (List.mem_of_getElem? (i := 1) rfl)), ⟨[sv e4 e7 b7], [sv c9 d3 b5], rfl, (hr _ (List.mem_of_getElem? (i := 2) rfl)), ⟨[sv c9 d3 b5], [], rfl, (hr _ (List.mem_of_getElem? (i := 0) rfl)), rfl⟩⟩⟩⟩⟩)) ?_)
      intro i5 w hS
      have hC := hC.again ⟨_, _, hS.re [] [] rfl (sub_cons 4 rfl (sub_cons 5 rfl (sub_cons 6 rfl (sub_cons 7 rfl sub_self))))⟩
      refine ⟨hC, ?_⟩
      refine ED.quick hN hF hC [15] [11, 68, 69, 70] 0 [(11, sv a2 a3 a1), (68, sv (some ⟨i5, 0, none⟩) 5 a0), (69, ia (a0.length : Int)), (70, ia 0)] (bm 17 131071) (by kernel_rfl) (by kernel_rfl) ?_
      refine ED.done (by kernel_rfl) ?_
      refine EQ.to ?_
      refine EQ.keep [11, 68, 69, 70] [(11, sv a2 a3 a1), (68, sv (some ⟨i5, 0, none⟩) 5 a0), (69, ia (a0.length : Int)), (70, ia 0)] (by kernel_rfl) ?_
      exact fun a ha => ⟨(some ⟨i5, 0, none⟩), 5, ha, (hS.re [0] [] rfl (sub_cons 1 rfl (sub_cons 3 rfl (sub_cons 4 rfl (sub_cons 5 rfl (sub_cons 6 rfl (sub_cons 7 rfl (sub_tail (sub_tail (sub_tail (sub_tail (sub_tail (sub_tail (sub_tail (sub_tail (sub_self))))))))))))))))⟩
     ·refine EO.append hS 33 33 5 1 0 (Kd.int .u8) g2 g3 c7 rfl A21 C22 l20 (Rd.ro 3 rfl) b5 j3 (fun d0 d4 => Ass.own 5 (Kd.int .u8) d0 d4 b5 :: Ass.own 5 (Kd.int .u8) (some a9) a6 b3 :: Ass.own 5 (Kd.int .u8) a8 a5 a4 :: os) 67 (by kernel_rfl) (by kernel_rfl) (by kernel_rfl) (by kernel_rfl) i9 (fun _ _ => rfl) ?_
      intro d0 d4 w hS
      have hC := hC.again ⟨_, _, hS⟩
      refine ⟨hC, ?_⟩
      refine ED.at' (bm 17 81407) (by kernel_rfl) ?_
      have hS := St.fr hS 2 rfl
      refine ED.one 9 2 (bm 17 81919) (by kernel_rfl) (by kernel_rfl) (by kernel_rfl) (EO.sliceRo hS (Kd.int .u8) a8 a5 a4 0 rfl none (some (ia (Int.tmod (IntKind.i64.wrap a18) (a4.length : Int)))) none 0 ((Int.tmod (IntKind.i64.wrap a18) (a4.length : Int)).toNat) a5 b7 (by rw [j2]; exact (slice_hi _ _)) 33 63 (by kernel_rfl) (by kernel_rfl) (by kernel_rfl) (by kernel_rfl) (rfl) ((Int.toNat_of_nonneg (by omega)).symm) ⟨rfl, fun h => by first | rfl | cases h⟩ (by omega) (by omega) (.inl rfl) ?_)
      intro e5 e8 hS
      have hC := hC.again ⟨_, _, hS.re [] [] rfl (sub_cons 2 rfl (sub_cons 3 rfl (sub_cons 4 rfl (sub_cons 5 rfl sub_self))))⟩
      refine ⟨hC, ?_⟩
      have hS := St.fr hS 1 rfl
      have hS := St.fr hS 0 rfl
      refine ED.one 14 1 (bm 17 98303) (by kernel_rfl) (by kernel_rfl) (by kernel_rfl) (EO.lit hS (Kd.slice (Kd.int .u8)) 33 42 5 #[(0, sv A13 C14 l12), (1, sv a8 a5 a4), (2, sv (some a9) a6 b3), (3, sv e5 e8 b7), (4, sv d0 d4 b5)] [sv A13 C14 l12, sv a8 a5 a4, sv (some a9) a6 b3, sv e5 e8 b7, sv d0 d4 b5] a0 68 (by kernel_rfl) (by kernel_rfl) (by kernel_rfl) (fun _ => (by kernel_rfl)) (by rw [f0]; rfl) (by kernel_rfl) (fun w G hr => (by rw [f0]; exact ⟨[sv A13 C14 l12], [sv a8 a5 a4, sv (some a9) a6 b3, sv e5 e8 b7, sv d0 d4 b5], rfl, (hr _ (List.mem_of_getElem? (i := 6) rfl)), ⟨[sv a8 a5 a4], [sv (some a9) a6 b3, sv e5 e8 b7, sv d0 d4 b5], rfl, (hr _ (List.mem_of_getElem? (i := 3) rfl)), ⟨[sv (some a9) a6 b3], [sv e5 e8 b7, sv d0 d4 b5], rfl, (hr _ (List.mem_of_getElem? (i := 1) rfl)), ⟨[sv e5 e8 b7], [sv d0 d4 b5], rfl, (hr _ (List.mem_of_getElem? (i := 2) rfl)), ⟨[sv d0 d4 b5], [], rfl, (hr _ (List.mem_of_getElem? (i := 0) rfl)), rfl⟩⟩⟩⟩⟩)) ?_)
      intro i6 w hS
      have hC := hC.again ⟨_, _, hS.re [] [] rfl (sub_cons 4 rfl (sub_cons 5 rfl (sub_cons 6 rfl (sub_cons 7 rfl sub_self))))⟩
      refine ⟨hC, ?_⟩
      refine ED.quick hN hF hC [15] [11, 68, 69, 70] 0 [(11, sv a2 a3 a1), (68, sv (some ⟨i6, 0, none⟩) 5 a0), (69, ia (a0.length : Int)), (70, ia 0)] (bm 17 131071) (by kernel_rfl) (by kernel_rfl) ?_
      refine ED.done (by kernel_rfl) ?_
      refine EQ.to ?_
      refine EQ.keep [11, 68, 69, 70] [(11, sv a2 a3 a1), (68, sv (some ⟨i6, 0, none⟩) 5 a0), (69, ia (a0.length : Int)), (70, ia 0)] (by kernel_rfl) ?_
      exact fun a ha => ⟨(some ⟨i6, 0, none⟩), 5, ha, (hS.re [0] [] rfl (sub_cons 1 rfl (sub_cons 3 rfl (sub_cons 4 rfl (sub_cons 5 rfl (sub_cons 6 rfl (sub_cons 7 rfl (sub_tail (sub_tail (sub_tail (sub_tail (sub_tail (sub_tail (sub_tail (sub_tail (sub_self))))))))))))))))⟩
   ·obtain ⟨d7, b4, ha, hS⟩ := hI
    refine EQ.at ?_ a ha
    clear ha a
    refine EQ.code ?_
    refine EW.bl 0 (by kernel_rfl) ?_
    refine EW.lp (fun n a w => ∃ a7 : Int, Sat 107 [(11, sv a2 a3 a1), (68, sv d7 b4 a0), (69, ia (a0.length : Int)), (70, ia a7)] a ∧ St B w (Ass.own 33 (Kd.slice (Kd.int .u8)) d7 b4 a0 :: os) (Ro.sl (Kd.int .u8) (some a9) a6 b3 :: Ro.sl (Kd.int .u8) a8 a5 a4 :: Ro.sl kS28 a2 a3 a1 :: Ro.sl kS50 A16 C17 l15 :: Ro.sl (Kd.int .u8) A13 C14 l12 :: Ro.sl (Kd.int .u8) A21 C22 l20 :: rs) ∧ confidantlaw23_TraceReads.l0 K a0 d8 n a7 = some f1) K (by kernel_rfl) ?_ (fun n a w hI => ?_)
    ·refine EQ.keep [11, 68, 69, 70] [(11, sv a2 a3 a1), (68, sv d7 b4 a0), (69, ia (a0.length : Int)), (70, ia 0)] (by kernel_rfl) ?_
     exact fun a ha => ⟨0, ha, (hS.re [0] [] rfl (sub_cons 0 rfl (sub_cons 1 rfl (sub_cons 2 rfl (sub_cons 3 rfl (sub_cons 4 rfl (sub_cons 5 rfl (sub_tail (sub_tail (sub_tail (sub_tail (sub_tail (sub_tail (sub_self)))))))))))))), H⟩
    obtain ⟨a7, ha, hS, H⟩ := hI
    obtain _ | n := n
    ·simp [confidantlaw23_TraceReads.l0] at H
    rw [confidantlaw23_TraceReads.l0.eq_2] at H
    refine EW.at ?_ a ha
    clear ha a
    refine EW.sq (by kernel_rfl) ?_
    refine EW.rg (by kernel_rfl) ?_
    refine EL.quick 1 [11, 68, 69, 70, 71] [(11, sv a2 a3 a1), (68, sv d7 b4 a0), (69, ia (a0.length : Int)), (70, ia a7), (71, .bool (decide (a7 < (a0.length : Int))))] (by kernel_rfl) ?_
    refine EL.done (by kernel_rfl) ?_
    refine EQ.code ?_
    refine EW.sq (by kernel_rfl) ?_
    refine EW.cdP (a7 < (a0.length : Int)) (by kernel_rfl) (by kernel_rfl) (fun e9 => ?_) (fun e9 => ?_)
    ·rw [if_pos e9] at H
     refine EW.skip (by kernel_rfl) ?_
     refine EQ.code ?_
     refine EW.sq (by kernel_rfl) ?_
     refine EW.bl 1 (by kernel_rfl) ?_
     refine EW.sq (by kernel_rfl) ?_
     refine EW.rg (by kernel_rfl) ?_
     obtain ⟨j0, H⟩ := ite_in H
     obtain ⟨b6, rfl⟩ := St.rd_some hS (Rd.own 0 33 rfl) j0 e9
     refine EL.of (EO.Y (YO.idx 42 1 b6 a0.length b4 .i64 a7 72 (by kernel_rfl) (by kernel_rfl) (by kernel_rfl) (by kernel_rfl) j0 e9) ?_)
     refine EL.of (EO.loadSl hS (Kd.int .u8) b6 b4 a0 (Rd.own 0 33 rfl) a7 j0 e9 33 73 (by kernel_rfl) (by kernel_rfl) (by kernel_rfl) (by kernel_rfl) ?_)
     intro c2 c3 hS
     refine EL.quick 1 [11, 15, 68, 69, 70] [(11, sv a2 a3 a1), (15, sv c2 c3 (a0.getD a7.toNat [])), (68, sv (some b6) b4 a0), (69, ia (a0.length : Int)), (70, ia a7)] (by kernel_rfl) ?_
     refine EL.done (by kernel_rfl) ?_
     refine EQ.code ?_
     refine EW.sq (by kernel_rfl) ?_
     refine EW.rg (by kernel_rfl) ?_
     refine EL.quick 1 [11, 15, 68, 69, 70, 75] [(11, sv a2 a3 a1), (15, sv c2 c3 (a0.getD a7.toNat [])), (68, sv (some b6) b4 a0), (69, ia (a0.length : Int)), (70, ia a7), (75, sv c2 c3 (a0.getD a7.toNat []))] (by kernel_rfl) ?_
     have hS : St B _ (Ass.own 33 (Kd.slice (Kd.int .u8)) (some b6) b4 a0 :: os) (Ro.sl (Kd.int .u8) c2 c3 (a0.getD a7.toNat []) :: Ro.sl (Kd.int .u8) (some a9) a6 b3 :: Ro.sl (Kd.int .u8) a8 a5 a4 :: Ro.sl kS28 a2 a3 a1 :: Ro.sl kS50 A16 C17 l15 :: Ro.sl (Kd.int .u8) A13 C14 l12 :: Ro.sl (Kd.int .u8) A21 C22 l20 :: rs) := hS.re [] [] rfl (sub_cons 0 rfl (sub_tail (sub_self)))
     obtain ⟨b8, d6, m3, H⟩ := b2_out H
     have hq := trace_Read.calls m3 hS
     refine EL.of (EO.callD 27 [sv c2 c3 (a0.getD a7.toNat [])] _ 76 (by kernel_rfl) (by kernel_rfl) (by kernel_rfl) hq ?_)
     rintro v w ⟨b9, c0, rfl, hS⟩
     refine EL.quick 5 [11, 15, 16, 17, 68, 69, 70] [(11, sv a2 a3 a1), (15, sv c2 c3 (a0.getD a7.toNat [])), (16, sv b9 c0 b8), (17, ia d6), (68, sv (some b6) b4 a0), (69, ia (a0.length : Int)), (70, ia a7)] (by kernel_rfl) ?_
     refine EL.done (by kernel_rfl) ?_
     refine EQ.code ?_
     refine EW.sq (by kernel_rfl) ?_
     refine EW.rg (by kernel_rfl) ?_
     refine EL.quick 1 [11, 16, 17, 68, 69, 70, 80] [(11, sv a2 a3 a1), (16, sv b9 c0 b8), (17, ia d6), (68, sv (some b6) b4 a0), (69, ia (a0.length : Int)), (70, ia a7), (80, sv c2 c3 (a0.getD a7.toNat []))] (by kernel_rfl) ?_
     have hS : St B _ (Ass.own 33 (Kd.slice (Kd.int .u8)) (some b6) b4 a0 :: os) (Ro.sl (Kd.int .u8) c2 c3 (a0.getD a7.toNat []) :: Ro.sl kS28 b9 c0 b8 :: Ro.sl (Kd.int .u8) (some a9) a6 b3 :: Ro.sl (Kd.int .u8) a8 a5 a4 :: Ro.sl kS28 a2 a3 a1 :: Ro.sl kS50 A16 C17 l15 :: Ro.sl (Kd.int .u8) A13 C14 l12 :: Ro.sl (Kd.int .u8) A21 C22 l20 :: rs) := hS.re [] [] rfl (sub_cons 1 rfl (sub_cons 0 rfl (sub_tail (sub_tail (sub_self)))))
     obtain ⟨c1, d9, m4, H⟩ := b2_out H
     have hq := confidantref21_EventsRead.calls m4 hS
     refine EL.of (EO.callD 28 [sv c2 c3 (a0.getD a7.toNat [])] _ 81 (by kernel_rfl) (by kernel_rfl) (by kernel_rfl) hq ?_)
     rintro v w ⟨c5, c6, rfl, hS⟩
     refine EL.quick 5 [11, 16, 17, 18, 19, 68, 69, 70] [(11, sv a2 a3 a1), (16, sv b9 c0 b8), (17, ia d6), (18, sv c5 c6 c1), (19, ia d9), (68, sv (some b6) b4 a0), (69, ia (a0.length : Int)), (70, ia a7)] (by kernel_rfl) ?_
     refine EL.done (by kernel_rfl) ?_
     refine EQ.code ?_
     obtain ⟨g8, n1, H⟩ := lt_out H
     refine EW.ct (fun a w => ∃ f3 : Bool, Sat 107 [(11, sv a2 a3 a1), (68, sv (some b6) b4 a0), (69, ia (a0.length : Int)), (70, ia a7), (92, .bool (f3))] a ∧ St B w (Ass.own 33 (Kd.slice (Kd.int .u8)) (some b6) b4 a0 :: os) (Ro.sl kS28 b9 c0 b8 :: Ro.sl (Kd.int .u8) c2 c3 (a0.getD a7.toNat []) :: Ro.sl (Kd.int .u8) (some a9) a6 b3 :: Ro.sl (Kd.int .u8) a8 a5 a4 :: Ro.sl kS28 a2 a3 a1 :: Ro.sl kS50 A16 C17 l15 :: Ro.sl (Kd.int .u8) A13 C14 l12 :: Ro.sl (Kd.int .u8) A21 C22 l20 :: rs) ∧ g8 f3 = some f1) (by kernel_rfl) ?_ (fun a w hI => ?_)
     ·refine EW.rg (by kernel_rfl) ?_
      refine EL.quick 4 [11, 16, 18, 68, 69, 70, 87] [(11, sv a2 a3 a1), (16, sv b9 c0 b8), (18, sv c5 c6 c1), (68, sv (some b6) b4 a0), (69, ia (a0.length : Int)), (70, ia a7), (87, .bool (!(decide (d6 = d9))))] (by kernel_rfl) ?_
      by_cases g6 : d6 = d9
      ·rw [if_pos g6] at H
       refine EL.keep [11, 16, 18, 68, 69, 70, 87] [(11, sv a2 a3 a1), (16, sv b9 c0 b8), (18, sv c5 c6 c1), (68, sv (some b6) b4 a0), (69, ia (a0.length : Int)), (70, ia a7), (87, .bool (!(decide (d6 = d9))))] (by kernel_rfl) ?_
       refine EL.as' [(11, sv a2 a3 a1), (16, sv b9 c0 b8), (18, sv c5 c6 c1), (68, sv (some b6) b4 a0), (69, ia (a0.length : Int)), (70, ia a7), (87, .bool (false))] (by simp only [sv, dec_t g6, Bool.not_true, Bool.not_false]) ?_
       refine EL.quick 2 [11, 68, 69, 70, 87, 88, 89] [(11, sv a2 a3 a1), (68, sv (some b6) b4 a0), (69, ia (a0.length : Int)), (70, ia a7), (87, .bool (false)), (88, sv b9 c0 b8), (89, sv c5 c6 c1)] (by kernel_rfl) ?_
       have hS := St.fr hS 0 rfl
       have hS : St B _ (Ass.own 33 (Kd.slice (Kd.int .u8)) (some b6) b4 a0 :: os) (Ro.sl kS28 b9 c0 b8 :: Ro.sl kS28 c5 c6 c1 :: Ro.sl (Kd.int .u8) c2 c3 (a0.getD a7.toNat []) :: Ro.sl (Kd.int .u8) (some a9) a6 b3 :: Ro.sl (Kd.int .u8) a8 a5 a4 :: Ro.sl kS28 a2 a3 a1 :: Ro.sl kS50 A16 C17 l15 :: Ro.sl (Kd.int .u8) A13 C14 l12 :: Ro.sl (Kd.int .u8) A21 C22 l20 :: rs) := hS.re [] [] rfl (sub_cons 2 rfl (sub_cons 0 rfl (sub_cons 1 rfl (sub_tail (sub_tail (sub_tail (sub_self)))))))
       obtain ⟨e0, m5, H⟩ := b1_out H
       have hq := confidantref21_SameEvents.calls m5 hS
       refine EL.of (EO.callD 17 [sv b9 c0 b8, sv c5 c6 c1] _ 90 (by kernel_rfl) (by kernel_rfl) (by kernel_rfl) hq ?_)
       rintro v w ⟨rfl, hS⟩
       refine EL.quick 2 [11, 68, 69, 70, 88, 89, 90, 91, 92] [(11, sv a2 a3 a1), (68, sv (some b6) b4 a0), (69, ia (a0.length : Int)), (70, ia a7), (88, sv b9 c0 b8), (89, sv c5 c6 c1), (90, .bool (e0)), (91, .bool (!(e0))), (92, .bool (!(e0)))] (by kernel_rfl) ?_
       refine EL.done (by kernel_rfl) ?_
       refine EQ.to ?_
       refine EQ.keep [11, 68, 69, 70, 92] [(11, sv a2 a3 a1), (68, sv (some b6) b4 a0), (69, ia (a0.length : Int)), (70, ia a7), (92, .bool (!(e0)))] (by kernel_rfl) ?_
       exact fun a ha => ⟨!(e0), ha, (hS.re [0] [] rfl (sub_cons 0 rfl (sub_cons 2 rfl (sub_cons 3 rfl (sub_cons 4 rfl (sub_cons 5 rfl (sub_cons 6 rfl (sub_cons 7 rfl (sub_cons 8 rfl (sub_tail (sub_tail (sub_tail (sub_tail (sub_tail (sub_tail (sub_tail (sub_tail (sub_tail (sub_self))))))))))))))))))), H⟩
      rw [if_neg g6] at H
      refine EL.keep [11, 16, 18, 68, 69, 70, 87] [(11, sv a2 a3 a1), (16, sv b9 c0 b8), (18, sv c5 c6 c1), (68, sv (some b6) b4 a0), (69, ia (a0.length : Int)), (70, ia a7), (87, .bool (!(decide (d6 = d9))))] (by kernel_rfl) ?_
      refine EL.as' [(11, sv a2 a3 a1), (16, sv b9 c0 b8), (18, sv c5 c6 c1), (68, sv (some b6) b4 a0), (69, ia (a0.length : Int)), (70, ia a7), (87, .bool (true))] (by simp only [sv, dec_f g6, Bool.not_true, Bool.not_false]) ?_
      refine EL.quick 5 [11, 68, 69, 70, 92] [(11, sv a2 a3 a1), (68, sv (some b6) b4 a0), (69, ia (a0.length : Int)), (70, ia a7), (92, .bool (true))] (by kernel_rfl) ?_
      refine EL.done (by kernel_rfl) ?_
      refine EQ.to ?_
      refine EQ.keep [11, 68, 69, 70, 92] [(11, sv a2 a3 a1), (68, sv (some b6) b4 a0), (69, ia (a0.length : Int)), (70, ia a7), (92, .bool (true))] (by kernel_rfl) ?_
      exact fun a ha => ⟨true, ha, (hS.re [1] [1] rfl (sub_cons 1 rfl (sub_cons 0 rfl (sub_cons 2 rfl (sub_cons 3 rfl (sub_cons 4 rfl (sub_cons 5 rfl (sub_cons 6 rfl (sub_cons 7 rfl (sub_tail (sub_tail (sub_tail (sub_tail (sub_tail (sub_tail (sub_tail (sub_tail (sub_self)))))))))))))))))), H⟩
     obtain ⟨f3, ha, hS, H⟩ := hI
     rw [n1] at H
     (try dsimp only at H)
     refine EW.at ?_ a ha
     clear ha a
     refine EW.cdP' (f3) (by kernel_rfl) (by kernel_rfl) (fun j1 => ?_) (fun j1 => ?_)
     ·rw [if_pos j1] at H
      refine EW.sq (by kernel_rfl) ?_
      refine EW.rg (by kernel_rfl) ?_
      refine EL.quick 1 [10] [(10, .bool (false))] (by kernel_rfl) ?_
      refine EL.done (by kernel_rfl) ?_
      refine EQ.code ?_
      refine EW.ret (by kernel_rfl) ?_
      refine EQ.ret ?_
      refine EQ.ret ?_
      refine EQ.ret ?_
      refine EQ.ret ?_
      refine EQ.ret ?_
      obtain rfl := Option.some.inj H
      exact EQ.leave (.bool (false)) (by kernel_rfl) ⟨_, rfl, rfl, (hS.re [] [0] rfl (sub_cons 6 rfl (sub_cons 5 rfl (sub_cons 7 rfl (sub_tail (sub_tail (sub_tail (sub_tail (sub_tail (sub_tail (sub_tail (sub_tail (sub_self)))))))))))))⟩
     rw [if_neg j1] at H
     refine EW.skip (by kernel_rfl) ?_
     refine EQ.pop ?_
     refine EQ.code ?_
     refine EW.rg (by kernel_rfl) ?_
     refine EL.quick 2 [11, 68, 69, 70] [(11, sv a2 a3 a1), (68, sv (some b6) b4 a0), (69, ia (a0.length : Int)), (70, ia (IntKind.i64.wrap (a7 + 1)))] (by kernel_rfl) ?_
     refine EL.done (by kernel_rfl) ?_
     refine EQ.to ?_
     refine EQ.keep [11, 68, 69, 70] [(11, sv a2 a3 a1), (68, sv (some b6) b4 a0), (69, ia (a0.length : Int)), (70, ia (IntKind.i64.wrap (a7 + 1)))] (by kernel_rfl) ?_
     exact fun a ha => ⟨n, Nat.lt_succ_self n, IntKind.i64.wrap (a7 + 1), ha, (hS.re [0] [] rfl (sub_cons 2 rfl (sub_cons 3 rfl (sub_cons 4 rfl (sub_cons 5 rfl (sub_cons 6 rfl (sub_cons 7 rfl (sub_tail (sub_tail (sub_tail (sub_tail (sub_tail (sub_tail (sub_tail (sub_tail (sub_self)))))))))))))))), H⟩
    rw [if_neg e9] at H
    refine EW.exit (id := 0) (by kernel_rfl) ?_
    refine EQ.exitCode ?_
    refine EQ.exitTo ?_
    refine EQ.exitHere ?_
    refine EQ.to ?_
    refine EQ.keep [11] [(11, sv a2 a3 a1)] (by kernel_rfl) ?_
    exact fun a ha => ⟨a0, d7, b4, ha, (hS.re [0] [] rfl (sub_cons 0 rfl (sub_cons 1 rfl (sub_cons 2 rfl (sub_cons 3 rfl (sub_cons 4 rfl (sub_cons 5 rfl (sub_tail (sub_tail (sub_tail (sub_tail (sub_tail (sub_tail (sub_self)))))))))))))), H⟩
  obtain ⟨e2, f5, f6, ha, hS, H⟩ := hI
  rw [n0] at H
  (try dsimp only at H)
  refine EW.at ?_ a ha
  clear ha a
  refine EW.sq (by kernel_rfl) ?_
  refine EW.rg (by kernel_rfl) ?_
  refine EL.quick 1 [11, 95] [(11, sv a2 a3 a1), (95, sv a2 a3 a1)] (by kernel_rfl) ?_
  have hS : St B _ (Ass.own 33 (Kd.slice (Kd.int .u8)) f5 f6 e2 :: os) (Ro.sl kS28 a2 a3 a1 :: Ro.sl (Kd.int .u8) (some a9) a6 b3 :: Ro.sl (Kd.int .u8) a8 a5 a4 :: Ro.sl kS50 A16 C17 l15 :: Ro.sl (Kd.int .u8) A13 C14 l12 :: Ro.sl (Kd.int .u8) A21 C22 l20 :: rs) := hS.re [] [] rfl (sub_cons 2 rfl (sub_cons 0 rfl (sub_cons 1 rfl (sub_tail (sub_tail (sub_tail (sub_self)))))))
  obtain ⟨g1, m6, H⟩ := b1_out H
  have hq := trace_Put.calls m6 hS
  refine EL.of (EO.callD 15 [sv a2 a3 a1] _ 96 (by kernel_rfl) (by kernel_rfl) (by kernel_rfl) hq ?_)
  rintro v w ⟨i1, i3, rfl, hS⟩
  have hS := St.fr hS 0 rfl
  have hS : St B _ (Ass.own 33 (Kd.slice (Kd.int .u8)) f5 f6 e2 :: os) (Ro.sl (Kd.int .u8) i1 i3 g1 :: Ro.sl kS28 a2 a3 a1 :: Ro.sl (Kd.int .u8) (some a9) a6 b3 :: Ro.sl (Kd.int .u8) a8 a5 a4 :: Ro.sl kS50 A16 C17 l15 :: Ro.sl (Kd.int .u8) A13 C14 l12 :: Ro.sl (Kd.int .u8) A21 C22 l20 :: rs) := hS.re [] [] rfl (sub_cons 0 rfl (sub_tail (sub_self)))
  obtain ⟨c4, e1, m7, H⟩ := b2_out H
  have hq := trace_Read.calls m7 hS
  refine EL.of (EO.callD 27 [sv i1 i3 g1] _ 97 (by kernel_rfl) (by kernel_rfl) (by kernel_rfl) hq ?_)
  rintro v w ⟨d1, d5, rfl, hS⟩
  refine EL.quick 5 [11, 20, 21] [(11, sv a2 a3 a1), (20, sv d1 d5 c4), (21, ia e1)] (by kernel_rfl) ?_
  refine EL.done (by kernel_rfl) ?_
  refine EQ.code ?_
  refine EW.sq (by kernel_rfl) ?_
  refine EW.rg (by kernel_rfl) ?_
  refine EL.quick 3 [11, 20, 102] [(11, sv a2 a3 a1), (20, sv d1 d5 c4), (102, .bool (decide (e1 = 0)))] (by kernel_rfl) ?_
  by_cases g7 : e1 = 0
  ·rw [if_pos g7] at H
   refine EL.keep [11, 20, 102] [(11, sv a2 a3 a1), (20, sv d1 d5 c4), (102, .bool (decide (e1 = 0)))] (by kernel_rfl) ?_
   refine EL.as' [(11, sv a2 a3 a1), (20, sv d1 d5 c4), (102, .bool (true))] (by simp only [sv, dec_t g7, Bool.not_true, Bool.not_false]) ?_
   refine EL.quick 2 [102, 103, 104] [(102, .bool (true)), (103, sv a2 a3 a1), (104, sv d1 d5 c4)] (by kernel_rfl) ?_
   have hS : St B _ (Ass.own 33 (Kd.slice (Kd.int .u8)) f5 f6 e2 :: os) (Ro.sl kS28 a2 a3 a1 :: Ro.sl kS28 d1 d5 c4 :: Ro.sl (Kd.int .u8) i1 i3 g1 :: Ro.sl (Kd.int .u8) (some a9) a6 b3 :: Ro.sl (Kd.int .u8) a8 a5 a4 :: Ro.sl kS50 A16 C17 l15 :: Ro.sl (Kd.int .u8) A13 C14 l12 :: Ro.sl (Kd.int .u8) A21 C22 l20 :: rs) := hS.re [] [] rfl (sub_cons 2 rfl (sub_cons 0 rfl (sub_cons 1 rfl (sub_tail (sub_tail (sub_tail (sub_self)))))))
   obtain ⟨g9, m8, H⟩ := b1_out H
   have hq := confidantref21_SameEvents.calls m8 hS
   refine EL.of (EO.callD 17 [sv a2 a3 a1, sv d1 d5 c4] _ 105 (by kernel_rfl) (by kernel_rfl) (by kernel_rfl) hq ?_)
   rintro v w ⟨rfl, hS⟩
   refine EL.quick 2 [10] [(10, .bool (g9))] (by kernel_rfl) ?_
   refine EL.done (by kernel_rfl) ?_
   refine EQ.code ?_
   refine EW.ret (by kernel_rfl) ?_
   obtain rfl := Option.some.inj H
   exact EQ.leave (.bool (g9)) (by kernel_rfl) ⟨_, rfl, rfl, (hS.re [] [0] rfl (sub_cons 6 rfl (sub_cons 5 rfl (sub_cons 7 rfl (sub_tail (sub_tail (sub_tail (sub_tail (sub_tail (sub_tail (sub_tail (sub_tail (sub_self)))))))))))))⟩
  rw [if_neg g7] at H
  refine EL.keep [11, 20, 102] [(11, sv a2 a3 a1), (20, sv d1 d5 c4), (102, .bool (decide (e1 = 0)))] (by kernel_rfl) ?_
  refine EL.as' [(11, sv a2 a3 a1), (20, sv d1 d5 c4), (102, .bool (false))] (by simp only [sv, dec_f g7, Bool.not_true, Bool.not_false]) ?_
  refine EL.quick 5 [10] [(10, .bool (false))] (by kernel_rfl) ?_
  refine EL.done (by kernel_rfl) ?_
  refine EQ.code ?_
  refine EW.ret (by kernel_rfl) ?_
  obtain rfl := Option.some.inj H
  exact EQ.leave (.bool (false)) (by kernel_rfl) ⟨_, rfl, rfl, (hS.re [] [0] rfl (sub_cons 6 rfl (sub_cons 5 rfl (sub_cons 7 rfl (sub_tail (sub_tail (sub_tail (sub_tail (sub_tail (sub_tail (sub_tail (sub_tail (sub_self)))))))))))))⟩
 rw [if_neg i7] at H
 refine EW.sq (by kernel_rfl) ?_
 refine EW.rg (by kernel_rfl) ?_
 refine EL.quick 1 [10] [(10, .bool (false))] (by kernel_rfl) ?_
 refine EL.done (by kernel_rfl) ?_
 refine EQ.code ?_
 refine EW.ret (by kernel_rfl) ?_
 refine EQ.ret ?_
 obtain rfl := Option.some.inj H
 exact EQ.leave (.bool (false)) (by kernel_rfl) ⟨_, rfl, rfl, (hS.re [] [] rfl (sub_self))⟩

def confidantlaw23_TraceReads.Pure : Prop := ∀ (l12 : List Int) (l15 : List S50) (a18 : Int) (a19 : Int) (l20 : List Int), l12.length * 1 ≤ 140737488351232 → (∀ x ∈ l12, (Lit.int .u8 x).wf = true) → l15.length * 4 ≤ 140737488351232 → (∀ x ∈ l15, okS50 x) → (Lit.int .u16 a18).wf = true → (Lit.int .u8 a19).wf = true → l20.length * 1 ≤ 140737488351232 → (∀ x ∈ l20, (Lit.int .u8 x).wf = true) → ∃ K, confidantlaw23_TraceReads.f K l12 l15 a18 a19 l20 = some true

end Go.Proofs.YtocdpimpkifdmaaDoor.G
