import Derived.Test.YtocdpimpkifdmaaDoorProg
import Derived.Test.YtocdpimpkifdmaaDoorFwShort
import Derived.Test.YtocdpimpkifdmaaDoorFwOpen
import Derived.Test.YtocdpimpkifdmaaDoorDoor
import Derived.Test.YtocdpimpkifdmaaDoorFwStr
import Derived.Test.YtocdpimpkifdmaaDoorG0
import Derived.Test.YtocdpimpkifdmaaDoorG2
import Derived.Test.YtocdpimpkifdmaaDoorG4
namespace Go.Proofs.YtocdpimpkifdmaaDoor.G
open Go Go.Fw Go.RowKit Go.Proofs
set_option linter.unusedVariables false
set_option linter.unusedSimpArgs false

/-! ### confidant/confidantlaw6.InstrReads: function 10 -/
def confidantlaw6_InstrReads.l1 (K : Nat) (a0 : List (List Int)) : Nat → Int → Option Bool
 | 0, _ => none
 | n + 1, a1 => if a1 < (a0.length : Int) then (if 0 ≤ a1 then (b2 (pack_New.f K (a0.getD a1.toNat [])) fun (f2 : List Int) (m1 : Int) => (b5 (instr_Take.f K f2 m1) fun (d2 : List Int) (e7 : Int) (a8 : Int) (a9 : Int) (c0 : Bool) => (b5 (confidantref5_Take.f K (a0.getD a1.toNat []) 0) fun (c9 : List Int) (f7 : Int) (b4 : Int) (b6 : Int) (f5 : Bool) => (lt (fun (i7 : List Int) (j4 : Int) (g9 : Bool) => (if g9 = true then (some false) else (confidantlaw6_InstrReads.l1 K a0 n (IntKind.i64.wrap (a1 + 1))))) fun g6 => (if (c0 == f5) = true then (if ((a8 == b4) && ((a9 == b6) && true)) = true then (if c0 = true then (b3 (pack_Reader_Left.f K d2 e7) fun (m2 : List Int) (m3 : Int) (g2 : Int) => (g6 m2 m3 (!(decide (g2 = (c9.length : Int)))))) else (g6 d2 e7 false)) else (g6 d2 e7 true)) else (g6 d2 e7 true)))))) else none) else (some true)
def confidantlaw6_InstrReads.l0 (K : Nat) (a3 : List ByteArray) (g4 : (List ByteArray) → Option Bool) : Nat → Int → Option Bool
 | 0, _ => none
 | n + 1, c1 => if c1 < (a3.length : Int) then (if 0 ≤ c1 then (b3 (instr_Parse.f K (a3.getD c1.toNat ⟨#[]⟩)) fun (e8 : Int) (e9 : Int) (f8 : Bool) => (b3 (confidantref5_Parse.f K (a3.getD c1.toNat ⟨#[]⟩)) fun (f0 : Int) (f1 : Int) (g1 : Bool) => (lt (fun (g8 : Bool) => (if g8 = true then (some false) else (confidantlaw6_InstrReads.l0 K a3 g4 n (IntKind.i64.wrap (c1 + 1))))) fun j2 => (if (f8 == g1) = true then (j2 (!(((e8 == f0) && ((e9 == f1) && true))))) else (j2 true))))) else none) else (g4 a3)
def confidantlaw6_InstrReads.f (K : Nat) (l9 : List Int) (a12 : ByteArray) (a13 : Int) (a14 : Int) (a15 : Int) (a16 : Int) : Option Bool := b1 (confidantlaw6_known.f K) fun (i6 : Bool) => (if i6 = true then (lt (fun (g7 : Bool) => (if g7 = true then (some true) else (b2 (confidantseat_Instr.f K a13 a14) fun (c6 : Int) (c7 : Int) => (b1 (confidantref5_Text.f K c6 c7) fun (j3 : ByteArray) => (if j3.size ≤ 16777216 then (lt (bytesL j3) fun e1 => (if (e1.length : Int) = 0 then none else (if 0 ≤ (Int.tmod (IntKind.i64.wrap a16) (e1.length : Int)) then (if (Int.tmod (IntKind.i64.wrap a16) (e1.length : Int)) < (e1.length : Int) then (lt (e1.set (Int.tmod (IntKind.i64.wrap a16) (e1.length : Int)).toNat a15) fun c5 => (b1 (confidantref5_Put.f K c6 c7) fun (a2 : List Int) => (if (([] : List Int).length + a2.length) * 1 ≤ 140737488355328 then (lt (([] : List Int) ++ a2) fun c8 => (if (c8.length : Int) = 0 then none else (if 0 ≤ (Int.tmod (IntKind.i64.wrap a16) (c8.length : Int)) then (if (Int.tmod (IntKind.i64.wrap a16) (c8.length : Int)) < (c8.length : Int) then (lt (c8.set (Int.tmod (IntKind.i64.wrap a16) (c8.length : Int)).toNat (bX .u8 (c8.getD (Int.tmod (IntKind.i64.wrap a16) (c8.length : Int)).toNat 0) a15)) fun b8 => (lt (fun (e4 : List ByteArray) => (if (a2.length : Int) = 0 then none else (if 0 ≤ (Int.tmod (IntKind.i64.wrap a16) (a2.length : Int)) then (if (Int.tmod (IntKind.i64.wrap a16) (a2.length : Int)) ≤ (a2.length : Int) then (lt (a2.take ((Int.tmod (IntKind.i64.wrap a16) (a2.length : Int)).toNat)) fun e0 => (lt ([l9, a2, b8, e0] : List (List Int)) fun a0 => (confidantlaw6_InstrReads.l1 K a0 K 0))) else none) else none))) fun g4 => (b1 (confidantref5_Text.f K c6 c7) fun (f9 : ByteArray) => (if f9.size + (⟨#[32]⟩ : ByteArray).size ≤ 9223372036854775807 then (if (⟨#[112, 117, 115, 104, 32]⟩ : ByteArray).size + a12.size ≤ 9223372036854775807 then (if (⟨#[112, 117, 115, 104, 32, 48]⟩ : ByteArray).size + a12.size ≤ 9223372036854775807 then (lt ([a12, (bStr c5), (f9 ++ (⟨#[32]⟩ : ByteArray)), ((⟨#[112, 117, 115, 104, 32]⟩ : ByteArray) ++ a12), ((⟨#[112, 117, 115, 104, 32, 48]⟩ : ByteArray) ++ a12), (⟨#[112, 117, 115, 104, 32, 45, 48]⟩ : ByteArray)] : List ByteArray) fun a3 => (confidantlaw6_InstrReads.l0 K a3 g4 K 0)) else none) else none) else none)))) else none) else none))) else none))) else none) else none))) else none))))) fun j1 => (if (l9.length : Int) > 40 then (j1 true) else (j1 (decide ((a12.size : Int) > 40))))) else (some false))
set_option maxRecDepth 100000 in
theorem confidantlaw6_InstrReads.calls {K : Nat} {l9 : List Int} {a12 : ByteArray} {a13 : Int} {a14 : Int} {a15 : Int} {a16 : Int} {A10 : Option Addr} {C11 : Nat} {g3 : Bool} {B w : World} {os : List Ass} {rs : List Ro} (H : confidantlaw6_InstrReads.f K l9 a12 a13 a14 a15 a16 = some g3) (hS : St B w (os) (Ro.sl (Kd.int .u8) A10 C11 l9 :: rs)) (gB : Glob B) :
  Calls Tryd.prog 10 [sv A10 C11 l9, .string a12, ig a13, ig a14, ig a15, ig a16].toArray w (fun en w' => ∃ v, en = .returned v ∧ v = .bool (g3) ∧ St B w' (os) (Ro.sl (Kd.int .u8) A10 C11 l9 :: rs)) := by
 unfold confidantlaw6_InstrReads.f at H
 refine calls_of_EW (args := [sv A10 C11 l9, .string a12, ig a13, ig a14, ig a15, ig a16]) (c := Cd10) 158 Tryd.func10 (by kernel_rfl) (by kernel_rfl) (by kernel_rfl) ?_
 refine EW.sq (by kernel_rfl) ?_
 refine EW.rg (by kernel_rfl) ?_
 refine EL.quick 1 [0, 1, 2, 3, 4, 5] [(0, sv A10 C11 l9), (1, .string a12), (2, ig a13), (3, ig a14), (4, ig a15), (5, ig a16)] (by kernel_rfl) ?_
 refine EL.done (by kernel_rfl) ?_
 refine EQ.code ?_
 refine EW.sq (by kernel_rfl) ?_
 refine EW.sq (by kernel_rfl) ?_
 refine EW.rg (by kernel_rfl) ?_
 obtain ⟨i6, o2, H⟩ := b1_out H
 have hq := confidantlaw6_known.calls o2 hS gB
 refine EL.of (EO.callD 29 [] _ 31 (by kernel_rfl) (by kernel_rfl) (by kernel_rfl) hq ?_)
 rintro v w ⟨rfl, hS⟩
 refine EL.quick 1 [0, 1, 2, 3, 4, 5, 32] [(0, sv A10 C11 l9), (1, .string a12), (2, ig a13), (3, ig a14), (4, ig a15), (5, ig a16), (32, .bool (!(i6)))] (by kernel_rfl) ?_
 refine EL.done (by kernel_rfl) ?_
 refine EQ.code ?_
 refine EW.cdQ (b := !(i6)) (i6 = true) (false) (by kernel_rfl) (by kernel_rfl) ⟨fun h => (by rw [h] <;> rfl), fun h => (by rw [Bool.eq_false_iff.2 h] <;> rfl)⟩ (fun j7 => ?_) (fun j7 => ?_)
 ·rw [if_pos j7] at H
  refine EW.skip (by kernel_rfl) ?_
  refine EQ.code ?_
  refine EW.sq (by kernel_rfl) ?_
  obtain ⟨j1, p3, H⟩ := lt_out H
  refine EW.ct (fun a w => ∃ g7 : Bool, Sat 158 [(0, sv A10 C11 l9), (1, .string a12), (2, ig a13), (3, ig a14), (4, ig a15), (5, ig a16), (40, .bool (g7))] a ∧ St B w (os) (Ro.sl (Kd.int .u8) A10 C11 l9 :: rs) ∧ j1 g7 = some g3) (by kernel_rfl) ?_ (fun a w hI => ?_)
  ·refine EW.rg (by kernel_rfl) ?_
   refine EL.quick 4 [0, 1, 2, 3, 4, 5, 36] [(0, sv A10 C11 l9), (1, .string a12), (2, ig a13), (3, ig a14), (4, ig a15), (5, ig a16), (36, .bool (decide ((l9.length : Int) > 40)))] (by kernel_rfl) ?_
   by_cases i8 : (l9.length : Int) > 40
   ·rw [if_pos i8] at H
    refine EL.keep [0, 1, 2, 3, 4, 5, 36] [(0, sv A10 C11 l9), (1, .string a12), (2, ig a13), (3, ig a14), (4, ig a15), (5, ig a16), (36, .bool (decide ((l9.length : Int) > 40)))] (by kernel_rfl) ?_
    refine EL.as' [(0, sv A10 C11 l9), (1, .string a12), (2, ig a13), (3, ig a14), (4, ig a15), (5, ig a16), (36, .bool (true))] (by simp only [sv, dec_t i8, Bool.not_true, Bool.not_false]) ?_
    refine EL.quick 4 [0, 1, 2, 3, 4, 5, 40] [(0, sv A10 C11 l9), (1, .string a12), (2, ig a13), (3, ig a14), (4, ig a15), (5, ig a16), (40, .bool (true))] (by kernel_rfl) ?_
    refine EL.done (by kernel_rfl) ?_
    refine EQ.to ?_
    refine EQ.keep [0, 1, 2, 3, 4, 5, 40] [(0, sv A10 C11 l9), (1, .string a12), (2, ig a13), (3, ig a14), (4, ig a15), (5, ig a16), (40, .bool (true))] (by kernel_rfl) ?_
    exact fun a ha => ⟨true, ha, (hS.re [] [] rfl (sub_cons 0 rfl (sub_tail (sub_self)))), H⟩
   rw [if_neg i8] at H
   refine EL.keep [0, 1, 2, 3, 4, 5, 36] [(0, sv A10 C11 l9), (1, .string a12), (2, ig a13), (3, ig a14), (4, ig a15), (5, ig a16), (36, .bool (decide ((l9.length : Int) > 40)))] (by kernel_rfl) ?_
   refine EL.as' [(0, sv A10 C11 l9), (1, .string a12), (2, ig a13), (3, ig a14), (4, ig a15), (5, ig a16), (36, .bool (false))] (by simp only [sv, dec_f i8, Bool.not_true, Bool.not_false]) ?_
   refine EL.quick 4 [0, 1, 2, 3, 4, 5, 40] [(0, sv A10 C11 l9), (1, .string a12), (2, ig a13), (3, ig a14), (4, ig a15), (5, ig a16), (40, .bool (decide ((a12.size : Int) > 40)))] (by kernel_rfl) ?_
   refine EL.done (by kernel_rfl) ?_
   refine EQ.to ?_
   refine EQ.keep [0, 1, 2, 3, 4, 5, 40] [(0, sv A10 C11 l9), (1, .string a12), (2, ig a13), (3, ig a14), (4, ig a15), (5, ig a16), (40, .bool (decide ((a12.size : Int) > 40)))] (by kernel_rfl) ?_
   exact fun a ha => ⟨decide ((a12.size : Int) > 40), ha, (hS.re [] [] rfl (sub_cons 0 rfl (sub_tail (sub_self)))), H⟩
  obtain ⟨g7, ha, hS, H⟩ := hI
  rw [p3] at H
  (try dsimp only at H)
  refine EW.at ?_ a ha
  clear ha a
  refine EW.cdP' (g7) (by kernel_rfl) (by kernel_rfl) (fun j8 => ?_) (fun j8 => ?_)
  ·rw [if_pos j8] at H
   refine EW.sq (by kernel_rfl) ?_
   refine EW.rg (by kernel_rfl) ?_
   refine EL.quick 1 [12] [(12, .bool (true))] (by kernel_rfl) ?_
   refine EL.done (by kernel_rfl) ?_
   refine EQ.code ?_
   refine EW.ret (by kernel_rfl) ?_
   refine EQ.ret ?_
   obtain rfl := Option.some.inj H
   exact EQ.leave (.bool (true)) (by kernel_rfl) ⟨_, rfl, rfl, (hS.re [] [] rfl (sub_self))⟩
  rw [if_neg j8] at H
  refine EW.skip (by kernel_rfl) ?_
  refine EQ.code ?_
  refine EW.sq (by kernel_rfl) ?_
  refine EW.rg (by kernel_rfl) ?_
  refine EL.quick 2 [0, 1, 4, 5, 41, 42] [(0, sv A10 C11 l9), (1, .string a12), (4, ig a15), (5, ig a16), (41, ig a13), (42, ig a14)] (by kernel_rfl) ?_
  obtain ⟨c6, c7, o3, H⟩ := b2_out H
  have hq := confidantseat_Instr.calls o3 hS
  refine EL.of (EO.callD 36 [ig a13, ig a14] _ 43 (by kernel_rfl) (by kernel_rfl) (by kernel_rfl) hq ?_)
  rintro v w ⟨rfl, hS⟩
  refine EL.of (EO.alloc hS 54 (ag [ia 0, ib 0]) [ia 0, ib 0] 13 (by kernel_rfl) (by kernel_rfl) (by kernel_rfl) (by kernel_rfl) (by first | rfl | kernel_rfl) ?_)
  intro c4 w hS
  refine EL.of (EO.storeBox (os' := Ass.box 54 c4 [ia c6, ib c7] :: os) hS 0 rfl 54 0 (ag [ia c6, ib c7]) [ia c6, ib c7] (by kernel_rfl) (by kernel_rfl) (by kernel_rfl) (by kernel_rfl) (by kernel_rfl) (by kernel_rfl) rfl rfl ?_)
  intro w hS
  refine EL.done (by kernel_rfl) ?_
  refine EQ.code ?_
  refine EW.sq (by kernel_rfl) ?_
  refine EW.rg (by kernel_rfl) ?_
  refine EL.of (EO.Y (YO.loadBox hS 0 rfl 54 0 2 (ag [ia c6, ib c7]) 44 (by kernel_rfl) (by kernel_rfl) (by kernel_rfl) (by kernel_rfl)) ?_)
  obtain ⟨j3, o4, H⟩ := b1_out H
  have hq := confidantref5_Text.calls o4 hS
  refine EL.of (EO.callD 39 [ag [ia c6, ib c7]] _ 45 (by kernel_rfl) (by kernel_rfl) (by kernel_rfl) hq ?_)
  rintro v w ⟨rfl, hS⟩
  obtain ⟨n4, H⟩ := ite_in H
  obtain ⟨e1, p7, H⟩ := lt_out H
  refine EL.of (EO.bytesOf hS j3 9 33 5 46 (by kernel_rfl) (by kernel_rfl) (by kernel_rfl) (by kernel_rfl) (by kernel_rfl) (by kernel_rfl) n4 p7 ?_)
  intro c3 c2 w hS
  refine EL.quick 1 [0, 1, 4, 5, 13, 14] [(0, sv A10 C11 l9), (1, .string a12), (4, ig a15), (5, ig a16), (13, pt c4 0), (14, sv (some c3) c2 e1)] (by kernel_rfl) ?_
  refine EL.done (by kernel_rfl) ?_
  refine EQ.code ?_
  refine EW.sq (by kernel_rfl) ?_
  refine EW.rg (by kernel_rfl) ?_
  refine EL.quick 5 [0, 1, 4, 5, 13, 14, 47, 49, 51] [(0, sv A10 C11 l9), (1, .string a12), (4, ig a15), (5, ig a16), (13, pt c4 0), (14, sv (some c3) c2 e1), (47, sv (some c3) c2 e1), (49, ia (IntKind.i64.wrap a16)), (51, ia (e1.length : Int))] (by kernel_rfl) ?_
  obtain ⟨n5, H⟩ := ite_out H
  refine EL.of (EO.Y (YO.div .rem .i64 (IntKind.i64.wrap a16) (e1.length : Int) (Int.tmod (IntKind.i64.wrap a16) (e1.length : Int)) 52 (by kernel_rfl) (by kernel_rfl) (by kernel_rfl) n5 (by first | exact .inl ⟨rfl, rfl⟩ | exact .inr ⟨rfl, rfl⟩)) ?_)
  refine EL.quick 1 [0, 1, 4, 5, 13, 14, 47, 52, 53] [(0, sv A10 C11 l9), (1, .string a12), (4, ig a15), (5, ig a16), (13, pt c4 0), (14, sv (some c3) c2 e1), (47, sv (some c3) c2 e1), (52, ia (Int.tmod (IntKind.i64.wrap a16) (e1.length : Int))), (53, ig a15)] (by kernel_rfl) ?_
  obtain ⟨m4, H⟩ := ite_in H
  obtain ⟨m5, H⟩ := ite_in H
  refine EL.of (EO.Y (YO.idx 33 1 c3 e1.length c2 .i64 (Int.tmod (IntKind.i64.wrap a16) (e1.length : Int)) 54 (by kernel_rfl) (by kernel_rfl) (by kernel_rfl) (by kernel_rfl) m4 m5) ?_)
  obtain ⟨c5, m8, H⟩ := lt_out H
  refine EL.of (EO.storeMrk hS 0 5 c3 c2 e1 rfl (Int.tmod (IntKind.i64.wrap a16) (e1.length : Int)) m4 m5 a15 c5 m8 5 (Ass.mrk 5 c3 c2 c5 :: Ass.box 54 c4 [ia c6, ib c7] :: os) (by kernel_rfl) (by kernel_rfl) (by kernel_rfl) (by kernel_rfl) rfl ?_)
  intro w hS
  refine EL.keep [0, 1, 4, 5, 13, 14] [(0, sv A10 C11 l9), (1, .string a12), (4, ig a15), (5, ig a16), (13, pt c4 0), (14, sv (some c3) c2 e1)] (by kernel_rfl) ?_
  refine EL.as' [(0, sv A10 C11 l9), (1, .string a12), (4, ig a15), (5, ig a16), (13, pt c4 0), (14, sv (some c3) c2 c5)] (by simp only [sv, m8, List.length_set]) ?_
  refine EL.done (by kernel_rfl) ?_
  refine EQ.code ?_
  refine EW.sq (by kernel_rfl) ?_
  refine EW.rg (by kernel_rfl) ?_
  refine EL.of (EO.Y (YO.loadBox hS 1 rfl 54 0 2 (ag [ia c6, ib c7]) 55 (by kernel_rfl) (by kernel_rfl) (by kernel_rfl) (by kernel_rfl)) ?_)
  obtain ⟨a2, o5, H⟩ := b1_out H
  have hq := confidantref5_Put.calls o5 hS
  refine EL.of (EO.callD 37 [ag [ia c6, ib c7]] _ 56 (by kernel_rfl) (by kernel_rfl) (by kernel_rfl) hq ?_)
  rintro v w ⟨a7, a6, rfl, hS⟩
  refine EL.quick 1 [0, 1, 4, 5, 13, 14, 15] [(0, sv A10 C11 l9), (1, .string a12), (4, ig a15), (5, ig a16), (13, pt c4 0), (14, sv (some c3) c2 c5), (15, sv a7 a6 a2)] (by kernel_rfl) ?_
  refine EL.done (by kernel_rfl) ?_
  refine EQ.code ?_
  refine EW.sq (by kernel_rfl) ?_
  refine EW.rg (by kernel_rfl) ?_
  refine EL.quick 1 [0, 1, 4, 5, 13, 14, 15, 57] [(0, sv A10 C11 l9), (1, .string a12), (4, ig a15), (5, ig a16), (13, pt c4 0), (14, sv (some c3) c2 c5), (15, sv a7 a6 a2), (57, sv a7 a6 a2)] (by kernel_rfl) ?_
  have hS := St.nilO hS 5 (Kd.int .u8)
  obtain ⟨n6, H⟩ := ite_in H
  obtain ⟨c8, p8, H⟩ := lt_out H
  refine EL.of (EO.append hS 33 33 5 1 0 (Kd.int .u8) none 0 ([] : List Int) rfl a7 a6 a2 (Rd.own 1 5 rfl) c8 p8 (fun i0 a5 => Ass.own 5 (Kd.int .u8) i0 a5 c8 :: Ass.own 5 (Kd.int .u8) a7 a6 a2 :: Ass.mrk 5 c3 c2 c5 :: Ass.box 54 c4 [ia c6, ib c7] :: os) 58 (by kernel_rfl) (by kernel_rfl) (by kernel_rfl) (by kernel_rfl) n6 (fun _ _ => rfl) ?_)
  intro i0 a5 w hS
  refine EL.quick 1 [0, 1, 4, 5, 13, 14, 15, 16] [(0, sv A10 C11 l9), (1, .string a12), (4, ig a15), (5, ig a16), (13, pt c4 0), (14, sv (some c3) c2 c5), (15, sv a7 a6 a2), (16, sv i0 a5 c8)] (by kernel_rfl) ?_
  refine EL.done (by kernel_rfl) ?_
  refine EQ.code ?_
  refine EW.sq (by kernel_rfl) ?_
  refine EW.rg (by kernel_rfl) ?_
  refine EL.quick 5 [0, 1, 4, 5, 13, 14, 15, 16, 59, 61, 63] [(0, sv A10 C11 l9), (1, .string a12), (4, ig a15), (5, ig a16), (13, pt c4 0), (14, sv (some c3) c2 c5), (15, sv a7 a6 a2), (16, sv i0 a5 c8), (59, sv i0 a5 c8), (61, ia (IntKind.i64.wrap a16)), (63, ia (c8.length : Int))] (by kernel_rfl) ?_
  obtain ⟨n7, H⟩ := ite_out H
  refine EL.of (EO.Y (YO.div .rem .i64 (IntKind.i64.wrap a16) (c8.length : Int) (Int.tmod (IntKind.i64.wrap a16) (c8.length : Int)) 64 (by kernel_rfl) (by kernel_rfl) (by kernel_rfl) n7 (by first | exact .inl ⟨rfl, rfl⟩ | exact .inr ⟨rfl, rfl⟩)) ?_)
  obtain ⟨i1, H⟩ := ite_in H
  obtain ⟨i2, H⟩ := ite_in H
  obtain ⟨b0, rfl⟩ := St.rd_some hS (Rd.own 0 5 rfl) i1 i2
  refine EL.of (EO.Y (YO.idx 33 1 b0 c8.length a5 .i64 (Int.tmod (IntKind.i64.wrap a16) (c8.length : Int)) 65 (by kernel_rfl) (by kernel_rfl) (by kernel_rfl) (by kernel_rfl) i1 i2) ?_)
  refine EL.of (EO.Y (YO.loadEl hS (Kd.int .u8) b0 a5 c8 (Rd.own 0 5 rfl) 0 (encI .u8) encI_of (Int.tmod (IntKind.i64.wrap a16) (c8.length : Int)) i1 i2 5 1 0 1 rfl (ig (c8.getD (Int.tmod (IntKind.i64.wrap a16) (c8.length : Int)).toNat 0)) 66 (by kernel_rfl) (by kernel_rfl) (by kernel_rfl) (by kernel_rfl)) ?_)
  refine EL.quick 2 [0, 1, 5, 13, 14, 15, 16, 59, 64, 68] [(0, sv A10 C11 l9), (1, .string a12), (5, ig a16), (13, pt c4 0), (14, sv (some c3) c2 c5), (15, sv a7 a6 a2), (16, sv (some b0) a5 c8), (59, sv (some b0) a5 c8), (64, ia (Int.tmod (IntKind.i64.wrap a16) (c8.length : Int))), (68, ig (bX .u8 (c8.getD (Int.tmod (IntKind.i64.wrap a16) (c8.length : Int)).toNat 0) a15))] (by kernel_rfl) ?_
  refine EL.of (EO.Y (YO.idx 33 1 b0 c8.length a5 .i64 (Int.tmod (IntKind.i64.wrap a16) (c8.length : Int)) 69 (by kernel_rfl) (by kernel_rfl) (by kernel_rfl) (by kernel_rfl) i1 i2) ?_)
  obtain ⟨b8, m9, H⟩ := lt_out H
  refine EL.of (EO.storeEl hS 0 (Kd.int .u8) 5 b0 a5 c8 rfl (Int.tmod (IntKind.i64.wrap a16) (c8.length : Int)) i1 i2 0 5 1 0 rfl (ig (bX .u8 (c8.getD (Int.tmod (IntKind.i64.wrap a16) (c8.length : Int)).toNat 0) a15)) (bX .u8 (c8.getD (Int.tmod (IntKind.i64.wrap a16) (c8.length : Int)).toNat 0) a15) b8 m9 (Ass.own 5 (Kd.int .u8) (some b0) a5 b8 :: Ass.own 5 (Kd.int .u8) a7 a6 a2 :: Ass.mrk 5 c3 c2 c5 :: Ass.box 54 c4 [ia c6, ib c7] :: os) (by kernel_rfl) (by kernel_rfl) (by kernel_rfl) (by kernel_rfl) (by kernel_rfl) (by kernel_rfl) (fun w G vs hr h => set_whole h (by kernel_rfl) rfl) rfl ?_)
  intro w hS
  refine EL.keep [0, 1, 5, 13, 14, 15, 16] [(0, sv A10 C11 l9), (1, .string a12), (5, ig a16), (13, pt c4 0), (14, sv (some c3) c2 c5), (15, sv a7 a6 a2), (16, sv (some b0) a5 c8)] (by kernel_rfl) ?_
  refine EL.as' [(0, sv A10 C11 l9), (1, .string a12), (5, ig a16), (13, pt c4 0), (14, sv (some c3) c2 c5), (15, sv a7 a6 a2), (16, sv (some b0) a5 b8)] (by simp only [sv, m9, List.length_set]) ?_
  refine EL.done (by kernel_rfl) ?_
  refine EQ.code ?_
  obtain ⟨g4, p4, H⟩ := lt_out H
  refine EW.ct (fun a w => ∃ e4 : List ByteArray, ∃ e5 : Option Addr, ∃ e6 : Nat, Sat 158 [(0, sv A10 C11 l9), (5, ig a16), (15, sv a7 a6 a2), (16, sv (some b0) a5 b8)] a ∧ St B w (Ass.own 9 Kd.str e5 e6 e4 :: Ass.own 5 (Kd.int .u8) (some b0) a5 b8 :: Ass.own 5 (Kd.int .u8) a7 a6 a2 :: Ass.box 54 c4 [ia c6, ib c7] :: os) (Ro.sl (Kd.int .u8) (some c3) c2 c5 :: Ro.sl (Kd.int .u8) A10 C11 l9 :: rs) ∧ g4 e4 = some g3) (by kernel_rfl) ?_ (fun a w hI => ?_)
  ·refine EW.sq (by kernel_rfl) ?_
   have hS := St.frMrk hS 2 rfl
   obtain ⟨f9, o6, H⟩ := b1_out H
   obtain ⟨n8, H⟩ := ite_in H
   obtain ⟨n9, H⟩ := ite_in H
   obtain ⟨o0, H⟩ := ite_in H
   obtain ⟨a3, n0, H⟩ := lt_out H
   have hS := hS.drew
   refine EW.dr (B := B) [Ass.own 5 (Kd.int .u8) (some b0) a5 b8, Ass.own 5 (Kd.int .u8) a7 a6 a2, Ass.box 54 c4 [ia c6, ib c7]] [Ro.sl (Kd.int .u8) (some c3) c2 c5, Ro.sl (Kd.int .u8) A10 C11 l9] (by kernel_rfl) (by kernel_rfl) ?_
   have hN : Region.noSelect Cd10.r.r.r.r.r.r.r.r.r.l.l.ops = true := (by kernel_rfl)
   have hF : freeAll Cd10.r.r.r.r.r.r.r.r.r.l.l.ops = true := (by kernel_rfl)
   have hC : Core B [Ass.own 5 (Kd.int .u8) (some b0) a5 b8, Ass.own 5 (Kd.int .u8) a7 a6 a2, Ass.box 54 c4 [ia c6, ib c7]] [Ro.sl (Kd.int .u8) (some c3) c2 c5, Ro.sl (Kd.int .u8) A10 C11 l9] _ := ⟨_, _, hS⟩
   refine ED.quick hN hF hC [0, 1, 6, 8, 12] [0, 5, 13, 15, 16, 70, 71, 76, 78, 82] 8 [(0, sv A10 C11 l9), (5, ig a16), (13, pt c4 0), (15, sv a7 a6 a2), (16, sv (some b0) a5 b8), (70, .string a12), (71, sv (some c3) c2 c5), (76, .string a12), (78, .string a12), (82, ia 0)] (bm 13 4419) (by kernel_rfl) (by kernel_rfl) ?_
   refine ED.Y hN hF hC 2 7 (bm 13 4423) (by kernel_rfl) (by kernel_rfl) rfl (fun _ _ _ hS => YO.bstr hS (some c3) c2 c5 (Rd.ro 0 rfl) 33 9 5 72 (by kernel_rfl) (by kernel_rfl) (by kernel_rfl) (by kernel_rfl) (by kernel_rfl) (by kernel_rfl)) ?_
   refine ED.Y hN hF hC 3 6 (bm 13 4431) (by kernel_rfl) (by kernel_rfl) rfl (fun _ _ _ hS => YO.loadBox hS 2 rfl 54 0 2 (ag [ia c6, ib c7]) 73 (by kernel_rfl) (by kernel_rfl) (by kernel_rfl) (by kernel_rfl)) ?_
   refine ED.Y hN hF hC 7 5 (bm 13 4559) (by kernel_rfl) (by kernel_rfl) rfl (fun _ _ _ hS => YO.strCat (⟨#[112, 117, 115, 104, 32]⟩ : ByteArray) a12 77 (by kernel_rfl) (by kernel_rfl) (by kernel_rfl) n9) ?_
   refine ED.Y hN hF hC 9 4 (bm 13 5071) (by kernel_rfl) (by kernel_rfl) rfl (fun _ _ _ hS => YO.strCat (⟨#[112, 117, 115, 104, 32, 48]⟩ : ByteArray) a12 79 (by kernel_rfl) (by kernel_rfl) (by kernel_rfl) o0) ?_
   have hq := confidantref5_Text.calls o6 hS
   refine ED.one 4 3 (bm 13 5087) (by kernel_rfl) (by kernel_rfl) (by kernel_rfl) (EO.callD 39 [ag [ia c6, ib c7]] _ 74 (by kernel_rfl) (by kernel_rfl) (by kernel_rfl) hq ?_)
   rintro v w ⟨rfl, hS⟩
   have hC := hC.again ⟨_, _, hS⟩
   refine ⟨hC, ?_⟩
   refine ED.Y hN hF hC 5 2 (bm 13 5119) (by kernel_rfl) (by kernel_rfl) rfl (fun _ _ _ hS => YO.strCat f9 (⟨#[32]⟩ : ByteArray) 75 (by kernel_rfl) (by kernel_rfl) (by kernel_rfl) n8) ?_
   refine ED.one 10 1 (bm 13 6143) (by kernel_rfl) (by kernel_rfl) (by kernel_rfl) (EO.lit hS Kd.str 9 68 6 #[(0, .string a12), (1, .string (bStr c5)), (2, .string (f9 ++ (⟨#[32]⟩ : ByteArray))), (3, .string ((⟨#[112, 117, 115, 104, 32]⟩ : ByteArray) ++ a12)), (4, .string ((⟨#[112, 117, 115, 104, 32, 48]⟩ : ByteArray) ++ a12)), (5, .string (⟨#[112, 117, 115, 104, 32, 45, 48]⟩ : ByteArray))] [.string a12, .string (bStr c5), .string (f9 ++ (⟨#[32]⟩ : ByteArray)), .string ((⟨#[112, 117, 115, 104, 32]⟩ : ByteArray) ++ a12), .string ((⟨#[112, 117, 115, 104, 32, 48]⟩ : ByteArray) ++ a12), .string (⟨#[112, 117, 115, 104, 32, 45, 48]⟩ : ByteArray)] a3 80 (by kernel_rfl) (by kernel_rfl) (by kernel_rfl) (fun _ => (by kernel_rfl)) (by rw [n0]; rfl) (by kernel_rfl) (fun w G hr => (by rw [n0]; exact ⟨[.string a12], [.string (bStr c5), .string (f9 ++ (⟨#[32]⟩ : ByteArray)), .string ((⟨#[112, 117, 115, 104, 32]⟩ : ByteArray) ++ a12), .string ((⟨#[112, 117, 115, 104, 32, 48]⟩ : ByteArray) ++ a12), .string (⟨#[112, 117, 115, 104, 32, 45, 48]⟩ : ByteArray)], rfl, rfl, ⟨[.string (bStr c5)], [.string (f9 ++ (⟨#[32]⟩ : ByteArray)), .string ((⟨#[112, 117, 115, 104, 32]⟩ : ByteArray) ++ a12), .string ((⟨#[112, 117, 115, 104, 32, 48]⟩ : ByteArray) ++ a12), .string (⟨#[112, 117, 115, 104, 32, 45, 48]⟩ : ByteArray)], rfl, rfl, ⟨[.string (f9 ++ (⟨#[32]⟩ : ByteArray))], [.string ((⟨#[112, 117, 115, 104, 32]⟩ : ByteArray) ++ a12), .string ((⟨#[112, 117, 115, 104, 32, 48]⟩ : ByteArray) ++ a12), .string (⟨#[112, 117, 115, 104, 32, 45, 48]⟩ : ByteArray)], rfl, rfl, ⟨[.string ((⟨#[112, 117, 115, 104, 32]⟩ : ByteArray) ++ a12)], [.string ((⟨#[112, 117, 115, 104, 32, 48]⟩ : ByteArray) ++ a12), .string (⟨#[112, 117, 115, 104, 32, 45, 48]⟩ : ByteArray)], rfl, rfl, ⟨[.string ((⟨#[112, 117, 115, 104, 32, 48]⟩ : ByteArray) ++ a12)], [.string (⟨#[112, 117, 115, 104, 32, 45, 48]⟩ : ByteArray)], rfl, rfl, ⟨[.string (⟨#[112, 117, 115, 104, 32, 45, 48]⟩ : ByteArray)], [], rfl, rfl, rfl⟩⟩⟩⟩⟩⟩)) ?_)
   intro d0 w hS
   have hC := hC.again ⟨_, _, hS.re [3, 3, 3] [] rfl sub_self⟩
   refine ⟨hC, ?_⟩
   refine ED.quick hN hF hC [11] [0, 5, 15, 16, 80, 81, 82] 0 [(0, sv A10 C11 l9), (5, ig a16), (15, sv a7 a6 a2), (16, sv (some b0) a5 b8), (80, sv (some ⟨d0, 0, none⟩) 6 a3), (81, ia (a3.length : Int)), (82, ia 0)] (bm 13 8191) (by kernel_rfl) (by kernel_rfl) ?_
   refine ED.done (by kernel_rfl) ?_
   refine EQ.code ?_
   refine EW.bl 0 (by kernel_rfl) ?_
   refine EW.lp (fun n a w => ∃ c1 : Int, Sat 158 [(0, sv A10 C11 l9), (5, ig a16), (15, sv a7 a6 a2), (16, sv (some b0) a5 b8), (80, sv (some ⟨d0, 0, none⟩) 6 a3), (81, ia (a3.length : Int)), (82, ia c1)] a ∧ St B w (Ass.own 9 Kd.str (some ⟨d0, 0, none⟩) 6 a3 :: Ass.own 5 (Kd.int .u8) (some b0) a5 b8 :: Ass.own 5 (Kd.int .u8) a7 a6 a2 :: Ass.box 54 c4 [ia c6, ib c7] :: os) (Ro.sl (Kd.int .u8) (some c3) c2 c5 :: Ro.sl (Kd.int .u8) A10 C11 l9 :: rs) ∧ confidantlaw6_InstrReads.l0 K a3 g4 n c1 = some g3) K (by kernel_rfl) ?_ (fun n a w hI => ?_)
   ·refine EQ.keep [0, 5, 15, 16, 80, 81, 82] [(0, sv A10 C11 l9), (5, ig a16), (15, sv a7 a6 a2), (16, sv (some b0) a5 b8), (80, sv (some ⟨d0, 0, none⟩) 6 a3), (81, ia (a3.length : Int)), (82, ia 0)] (by kernel_rfl) ?_
    exact fun a ha => ⟨0, ha, (hS.re [3, 3, 3, 3] [] rfl (sub_cons 0 rfl (sub_cons 1 rfl (sub_tail (sub_tail (sub_self)))))), H⟩
   obtain ⟨c1, ha, hS, H⟩ := hI
   obtain _ | n := n
   ·simp [confidantlaw6_InstrReads.l0] at H
   rw [confidantlaw6_InstrReads.l0.eq_2] at H
   refine EW.at ?_ a ha
   clear ha a
   refine EW.sq (by kernel_rfl) ?_
   refine EW.rg (by kernel_rfl) ?_
   refine EL.quick 1 [0, 5, 15, 16, 80, 81, 82, 83] [(0, sv A10 C11 l9), (5, ig a16), (15, sv a7 a6 a2), (16, sv (some b0) a5 b8), (80, sv (some ⟨d0, 0, none⟩) 6 a3), (81, ia (a3.length : Int)), (82, ia c1), (83, .bool (decide (c1 < (a3.length : Int))))] (by kernel_rfl) ?_
   refine EL.done (by kernel_rfl) ?_
   refine EQ.code ?_
   refine EW.sq (by kernel_rfl) ?_
   refine EW.cdP (c1 < (a3.length : Int)) (by kernel_rfl) (by kernel_rfl) (fun i3 => ?_) (fun i3 => ?_)
   ·rw [if_pos i3] at H
    refine EW.skip (by kernel_rfl) ?_
    refine EQ.code ?_
    refine EW.sq (by kernel_rfl) ?_
    refine EW.bl 1 (by kernel_rfl) ?_
    refine EW.sq (by kernel_rfl) ?_
    refine EW.rg (by kernel_rfl) ?_
    obtain ⟨m6, H⟩ := ite_in H
    refine EL.of (EO.Y (YO.idx 68 1 ⟨d0, 0, none⟩ a3.length 6 .i64 c1 84 (by kernel_rfl) (by kernel_rfl) (by kernel_rfl) (by kernel_rfl) m6 i3) ?_)
    refine EL.of (EO.Y (YO.loadEl hS Kd.str ⟨d0, 0, none⟩ 6 a3 (Rd.own 0 9 rfl) ⟨#[]⟩ encS encS_of c1 m6 i3 9 1 0 1 rfl (.string (a3.getD c1.toNat ⟨#[]⟩)) 85 (by kernel_rfl) (by kernel_rfl) (by kernel_rfl) (by kernel_rfl)) ?_)
    refine EL.quick 1 [0, 5, 15, 16, 18, 80, 81, 82] [(0, sv A10 C11 l9), (5, ig a16), (15, sv a7 a6 a2), (16, sv (some b0) a5 b8), (18, .string (a3.getD c1.toNat ⟨#[]⟩)), (80, sv (some ⟨d0, 0, none⟩) 6 a3), (81, ia (a3.length : Int)), (82, ia c1)] (by kernel_rfl) ?_
    refine EL.done (by kernel_rfl) ?_
    refine EQ.code ?_
    refine EW.sq (by kernel_rfl) ?_
    refine EW.rg (by kernel_rfl) ?_
    refine EL.quick 1 [0, 5, 15, 16, 18, 80, 81, 82, 87] [(0, sv A10 C11 l9), (5, ig a16), (15, sv a7 a6 a2), (16, sv (some b0) a5 b8), (18, .string (a3.getD c1.toNat ⟨#[]⟩)), (80, sv (some ⟨d0, 0, none⟩) 6 a3), (81, ia (a3.length : Int)), (82, ia c1), (87, .string (a3.getD c1.toNat ⟨#[]⟩))] (by kernel_rfl) ?_
    obtain ⟨e8, e9, f8, o7, H⟩ := b3_out H
    have hq := instr_Parse.calls o7 hS gB
    refine EL.of (EO.callD 33 [.string (a3.getD c1.toNat ⟨#[]⟩)] _ 88 (by kernel_rfl) (by kernel_rfl) (by kernel_rfl) hq ?_)
    rintro v w ⟨rfl, hS⟩
    refine EL.quick 3 [0, 5, 15, 16, 18, 80, 81, 82, 89, 90] [(0, sv A10 C11 l9), (5, ig a16), (15, sv a7 a6 a2), (16, sv (some b0) a5 b8), (18, .string (a3.getD c1.toNat ⟨#[]⟩)), (80, sv (some ⟨d0, 0, none⟩) 6 a3), (81, ia (a3.length : Int)), (82, ia c1), (89, ag [ia e8, ib e9]), (90, .bool (f8))] (by kernel_rfl) ?_
    refine EL.of (EO.alloc hS 54 (ag [ia 0, ib 0]) [ia 0, ib 0] 19 (by kernel_rfl) (by kernel_rfl) (by kernel_rfl) (by kernel_rfl) (by first | rfl | kernel_rfl) ?_)
    intro f6 w hS
    refine EL.of (EO.storeBox (os' := Ass.box 54 f6 [ia e8, ib e9] :: Ass.own 9 Kd.str (some ⟨d0, 0, none⟩) 6 a3 :: Ass.own 5 (Kd.int .u8) (some b0) a5 b8 :: Ass.own 5 (Kd.int .u8) a7 a6 a2 :: Ass.box 54 c4 [ia c6, ib c7] :: os) hS 0 rfl 54 0 (ag [ia e8, ib e9]) [ia e8, ib e9] (by kernel_rfl) (by kernel_rfl) (by kernel_rfl) (by kernel_rfl) (by kernel_rfl) (by kernel_rfl) rfl rfl ?_)
    intro w hS
    refine EL.quick 1 [0, 5, 15, 16, 18, 19, 20, 80, 81, 82] [(0, sv A10 C11 l9), (5, ig a16), (15, sv a7 a6 a2), (16, sv (some b0) a5 b8), (18, .string (a3.getD c1.toNat ⟨#[]⟩)), (19, pt f6 0), (20, .bool (f8)), (80, sv (some ⟨d0, 0, none⟩) 6 a3), (81, ia (a3.length : Int)), (82, ia c1)] (by kernel_rfl) ?_
    refine EL.done (by kernel_rfl) ?_
    refine EQ.code ?_
    refine EW.sq (by kernel_rfl) ?_
    refine EW.rg (by kernel_rfl) ?_
    refine EL.quick 1 [0, 5, 15, 16, 19, 20, 80, 81, 82, 92] [(0, sv A10 C11 l9), (5, ig a16), (15, sv a7 a6 a2), (16, sv (some b0) a5 b8), (19, pt f6 0), (20, .bool (f8)), (80, sv (some ⟨d0, 0, none⟩) 6 a3), (81, ia (a3.length : Int)), (82, ia c1), (92, .string (a3.getD c1.toNat ⟨#[]⟩))] (by kernel_rfl) ?_
    obtain ⟨f0, f1, g1, o8, H⟩ := b3_out H
    have hq := confidantref5_Parse.calls o8 hS
    refine EL.of (EO.callD 41 [.string (a3.getD c1.toNat ⟨#[]⟩)] _ 93 (by kernel_rfl) (by kernel_rfl) (by kernel_rfl) hq ?_)
    rintro v w ⟨rfl, hS⟩
    refine EL.quick 3 [0, 5, 15, 16, 19, 20, 80, 81, 82, 94, 95] [(0, sv A10 C11 l9), (5, ig a16), (15, sv a7 a6 a2), (16, sv (some b0) a5 b8), (19, pt f6 0), (20, .bool (f8)), (80, sv (some ⟨d0, 0, none⟩) 6 a3), (81, ia (a3.length : Int)), (82, ia c1), (94, ag [ia f0, ib f1]), (95, .bool (g1))] (by kernel_rfl) ?_
    refine EL.of (EO.alloc hS 54 (ag [ia 0, ib 0]) [ia 0, ib 0] 21 (by kernel_rfl) (by kernel_rfl) (by kernel_rfl) (by kernel_rfl) (by first | rfl | kernel_rfl) ?_)
    intro g0 w hS
    refine EL.of (EO.storeBox (os' := Ass.box 54 g0 [ia f0, ib f1] :: Ass.box 54 f6 [ia e8, ib e9] :: Ass.own 9 Kd.str (some ⟨d0, 0, none⟩) 6 a3 :: Ass.own 5 (Kd.int .u8) (some b0) a5 b8 :: Ass.own 5 (Kd.int .u8) a7 a6 a2 :: Ass.box 54 c4 [ia c6, ib c7] :: os) hS 0 rfl 54 0 (ag [ia f0, ib f1]) [ia f0, ib f1] (by kernel_rfl) (by kernel_rfl) (by kernel_rfl) (by kernel_rfl) (by kernel_rfl) (by kernel_rfl) rfl rfl ?_)
    intro w hS
    refine EL.quick 1 [0, 5, 15, 16, 19, 20, 21, 22, 80, 81, 82] [(0, sv A10 C11 l9), (5, ig a16), (15, sv a7 a6 a2), (16, sv (some b0) a5 b8), (19, pt f6 0), (20, .bool (f8)), (21, pt g0 0), (22, .bool (g1)), (80, sv (some ⟨d0, 0, none⟩) 6 a3), (81, ia (a3.length : Int)), (82, ia c1)] (by kernel_rfl) ?_
    refine EL.done (by kernel_rfl) ?_
    refine EQ.code ?_
    obtain ⟨j2, p5, H⟩ := lt_out H
    refine EW.ct (fun a w => ∃ g8 : Bool, Sat 158 [(0, sv A10 C11 l9), (5, ig a16), (15, sv a7 a6 a2), (16, sv (some b0) a5 b8), (80, sv (some ⟨d0, 0, none⟩) 6 a3), (81, ia (a3.length : Int)), (82, ia c1), (103, .bool (g8))] a ∧ St B w (Ass.box 54 g0 [ia f0, ib f1] :: Ass.box 54 f6 [ia e8, ib e9] :: Ass.own 9 Kd.str (some ⟨d0, 0, none⟩) 6 a3 :: Ass.own 5 (Kd.int .u8) (some b0) a5 b8 :: Ass.own 5 (Kd.int .u8) a7 a6 a2 :: Ass.box 54 c4 [ia c6, ib c7] :: os) (Ro.sl (Kd.int .u8) (some c3) c2 c5 :: Ro.sl (Kd.int .u8) A10 C11 l9 :: rs) ∧ j2 g8 = some g3) (by kernel_rfl) ?_ (fun a w hI => ?_)
    ·refine EW.rg (by kernel_rfl) ?_
     refine EL.quick 4 [0, 5, 15, 16, 19, 21, 80, 81, 82, 99] [(0, sv A10 C11 l9), (5, ig a16), (15, sv a7 a6 a2), (16, sv (some b0) a5 b8), (19, pt f6 0), (21, pt g0 0), (80, sv (some ⟨d0, 0, none⟩) 6 a3), (81, ia (a3.length : Int)), (82, ia c1), (99, .bool (!((f8 == g1))))] (by kernel_rfl) ?_
     by_cases i9 : (f8 == g1) = true
     ·rw [if_pos i9] at H
      refine EL.keep [0, 5, 15, 16, 19, 21, 80, 81, 82, 99] [(0, sv A10 C11 l9), (5, ig a16), (15, sv a7 a6 a2), (16, sv (some b0) a5 b8), (19, pt f6 0), (21, pt g0 0), (80, sv (some ⟨d0, 0, none⟩) 6 a3), (81, ia (a3.length : Int)), (82, ia c1), (99, .bool (!((f8 == g1))))] (by kernel_rfl) ?_
      refine EL.as' [(0, sv A10 C11 l9), (5, ig a16), (15, sv a7 a6 a2), (16, sv (some b0) a5 b8), (19, pt f6 0), (21, pt g0 0), (80, sv (some ⟨d0, 0, none⟩) 6 a3), (81, ia (a3.length : Int)), (82, ia c1), (99, .bool (false))] (by simp only [sv, i9, Bool.not_true, Bool.not_false]) ?_
      refine EL.of (EO.Y (YO.loadBox hS 1 rfl 54 0 2 (ag [ia e8, ib e9]) 100 (by kernel_rfl) (by kernel_rfl) (by kernel_rfl) (by kernel_rfl)) ?_)
      refine EL.of (EO.Y (YO.loadBox hS 0 rfl 54 0 2 (ag [ia f0, ib f1]) 101 (by kernel_rfl) (by kernel_rfl) (by kernel_rfl) (by kernel_rfl)) ?_)
      refine EL.of (EO.Y (YO.eqAg .neq 54 (.tmp 100) (.tmp 101) #[ia e8, ib e9] #[ia f0, ib f1] ((e8 == f0) && ((e9 == f1) && true)) (!(((e8 == f0) && ((e9 == f1) && true)))) 102 (by kernel_rfl) (by kernel_rfl) (by kernel_rfl) (by kernel_rfl) (by kernel_rfl) (.inr ⟨rfl, rfl⟩)) ?_)
      refine EL.quick 1 [0, 5, 15, 16, 80, 81, 82, 100, 101, 102, 103] [(0, sv A10 C11 l9), (5, ig a16), (15, sv a7 a6 a2), (16, sv (some b0) a5 b8), (80, sv (some ⟨d0, 0, none⟩) 6 a3), (81, ia (a3.length : Int)), (82, ia c1), (100, ag [ia e8, ib e9]), (101, ag [ia f0, ib f1]), (102, .bool (!(((e8 == f0) && ((e9 == f1) && true))))), (103, .bool (!(((e8 == f0) && ((e9 == f1) && true)))))] (by kernel_rfl) ?_
      refine EL.done (by kernel_rfl) ?_
      refine EQ.to ?_
      refine EQ.keep [0, 5, 15, 16, 80, 81, 82, 103] [(0, sv A10 C11 l9), (5, ig a16), (15, sv a7 a6 a2), (16, sv (some b0) a5 b8), (80, sv (some ⟨d0, 0, none⟩) 6 a3), (81, ia (a3.length : Int)), (82, ia c1), (103, .bool (!(((e8 == f0) && ((e9 == f1) && true)))))] (by kernel_rfl) ?_
      exact fun a ha => ⟨!(((e8 == f0) && ((e9 == f1) && true))), ha, (hS.re [5, 5, 5, 5, 5, 5] [] rfl (sub_cons 0 rfl (sub_cons 1 rfl (sub_tail (sub_tail (sub_self)))))), H⟩
     rw [if_neg i9] at H
     refine EL.keep [0, 5, 15, 16, 19, 21, 80, 81, 82, 99] [(0, sv A10 C11 l9), (5, ig a16), (15, sv a7 a6 a2), (16, sv (some b0) a5 b8), (19, pt f6 0), (21, pt g0 0), (80, sv (some ⟨d0, 0, none⟩) 6 a3), (81, ia (a3.length : Int)), (82, ia c1), (99, .bool (!((f8 == g1))))] (by kernel_rfl) ?_
     refine EL.as' [(0, sv A10 C11 l9), (5, ig a16), (15, sv a7 a6 a2), (16, sv (some b0) a5 b8), (19, pt f6 0), (21, pt g0 0), (80, sv (some ⟨d0, 0, none⟩) 6 a3), (81, ia (a3.length : Int)), (82, ia c1), (99, .bool (true))] (by simp only [sv, (Bool.eq_false_iff.2 i9), Bool.not_true, Bool.not_false]) ?_
     refine EL.quick 4 [0, 5, 15, 16, 80, 81, 82, 103] [(0, sv A10 C11 l9), (5, ig a16), (15, sv a7 a6 a2), (16, sv (some b0) a5 b8), (80, sv (some ⟨d0, 0, none⟩) 6 a3), (81, ia (a3.length : Int)), (82, ia c1), (103, .bool (true))] (by kernel_rfl) ?_
     refine EL.done (by kernel_rfl) ?_
     refine EQ.to ?_
     refine EQ.keep [0, 5, 15, 16, 80, 81, 82, 103] [(0, sv A10 C11 l9), (5, ig a16), (15, sv a7 a6 a2), (16, sv (some b0) a5 b8), (80, sv (some ⟨d0, 0, none⟩) 6 a3), (81, ia (a3.length : Int)), (82, ia c1), (103, .bool (true))] (by kernel_rfl) ?_
     exact fun a ha => ⟨true, ha, (hS.re [5, 5, 5, 5, 5, 5] [] rfl (sub_cons 0 rfl (sub_cons 1 rfl (sub_tail (sub_tail (sub_self)))))), H⟩
    obtain ⟨g8, ha, hS, H⟩ := hI
    rw [p5] at H
    (try dsimp only at H)
    refine EW.at ?_ a ha
    clear ha a
    refine EW.cdP' (g8) (by kernel_rfl) (by kernel_rfl) (fun j9 => ?_) (fun j9 => ?_)
    ·rw [if_pos j9] at H
     refine EW.sq (by kernel_rfl) ?_
     refine EW.rg (by kernel_rfl) ?_
     refine EL.quick 1 [12] [(12, .bool (false))] (by kernel_rfl) ?_
     refine EL.done (by kernel_rfl) ?_
     refine EQ.code ?_
     refine EW.ret (by kernel_rfl) ?_
     refine EQ.ret ?_
     refine EQ.ret ?_
     refine EQ.ret ?_
     refine EQ.ret ?_
     refine EQ.ret ?_
     obtain rfl := Option.some.inj H
     exact EQ.leave (.bool (false)) (by kernel_rfl) ⟨_, rfl, rfl, (hS.re [] [0, 0, 0, 0, 0, 0] rfl (sub_tail (sub_self)))⟩
    rw [if_neg j9] at H
    refine EW.skip (by kernel_rfl) ?_
    refine EQ.pop ?_
    refine EQ.code ?_
    refine EW.rg (by kernel_rfl) ?_
    refine EL.quick 2 [0, 5, 15, 16, 80, 81, 82] [(0, sv A10 C11 l9), (5, ig a16), (15, sv a7 a6 a2), (16, sv (some b0) a5 b8), (80, sv (some ⟨d0, 0, none⟩) 6 a3), (81, ia (a3.length : Int)), (82, ia (IntKind.i64.wrap (c1 + 1)))] (by kernel_rfl) ?_
    refine EL.done (by kernel_rfl) ?_
    refine EQ.to ?_
    refine EQ.keep [0, 5, 15, 16, 80, 81, 82] [(0, sv A10 C11 l9), (5, ig a16), (15, sv a7 a6 a2), (16, sv (some b0) a5 b8), (80, sv (some ⟨d0, 0, none⟩) 6 a3), (81, ia (a3.length : Int)), (82, ia (IntKind.i64.wrap (c1 + 1)))] (by kernel_rfl) ?_
    exact fun a ha => ⟨n, Nat.lt_succ_self n, IntKind.i64.wrap (c1 + 1), ha, (hS.re [5, 5, 5, 5] [4, 4] rfl (sub_cons 0 rfl (sub_cons 1 rfl (sub_tail (sub_tail (sub_self)))))), H⟩
   rw [if_neg i3] at H
   refine EW.exit (id := 0) (by kernel_rfl) ?_
   refine EQ.exitCode ?_
   refine EQ.exitTo ?_
   refine EQ.exitHere ?_
   refine EQ.to ?_
   refine EQ.keep [0, 5, 15, 16] [(0, sv A10 C11 l9), (5, ig a16), (15, sv a7 a6 a2), (16, sv (some b0) a5 b8)] (by kernel_rfl) ?_
   exact fun a ha => ⟨a3, (some ⟨d0, 0, none⟩), 6, ha, (hS.re [3, 3, 3, 3] [] rfl (sub_cons 0 rfl (sub_cons 1 rfl (sub_tail (sub_tail (sub_self)))))), H⟩
  obtain ⟨e4, e5, e6, ha, hS, H⟩ := hI
  rw [p4] at H
  (try dsimp only at H)
  refine EW.at ?_ a ha
  clear ha a
  refine EW.sq (by kernel_rfl) ?_
  refine EW.sq (by kernel_rfl) ?_
  refine EW.rg (by kernel_rfl) ?_
  refine EL.quick 8 [105, 106, 107, 108, 110, 112] [(105, sv A10 C11 l9), (106, sv a7 a6 a2), (107, sv (some b0) a5 b8), (108, sv a7 a6 a2), (110, ia (IntKind.i64.wrap a16)), (112, ia (a2.length : Int))] (by kernel_rfl) ?_
  obtain ⟨o1, H⟩ := ite_out H
  refine EL.of (EO.Y (YO.div .rem .i64 (IntKind.i64.wrap a16) (a2.length : Int) (Int.tmod (IntKind.i64.wrap a16) (a2.length : Int)) 113 (by kernel_rfl) (by kernel_rfl) (by kernel_rfl) o1 (by first | exact .inl ⟨rfl, rfl⟩ | exact .inr ⟨rfl, rfl⟩)) ?_)
  have hS := St.fr hS 2 rfl
  obtain ⟨q0, H⟩ := ite_in H
  obtain ⟨q1, H⟩ := ite_in H
  obtain ⟨e0, p9, H⟩ := lt_out H
  refine EL.of (EO.sliceRo hS (Kd.int .u8) a7 a6 a2 0 rfl none (some (ia (Int.tmod (IntKind.i64.wrap a16) (a2.length : Int)))) none 0 ((Int.tmod (IntKind.i64.wrap a16) (a2.length : Int)).toNat) a6 e0 (by rw [p9]; exact (slice_hi _ _)) 33 114 (by kernel_rfl) (by kernel_rfl) (by kernel_rfl) (by kernel_rfl) (rfl) ((Int.toNat_of_nonneg (by omega)).symm) ⟨rfl, fun h => by first | rfl | cases h⟩ (by omega) (by omega) (.inl rfl) ?_)
  intro e2 e3 hS
  have hS := St.fr hS 1 rfl
  obtain ⟨a0, n1, H⟩ := lt_out H
  refine EL.of (EO.lit hS (Kd.slice (Kd.int .u8)) 33 42 4 #[(0, sv A10 C11 l9), (1, sv a7 a6 a2), (2, sv (some b0) a5 b8), (3, sv e2 e3 e0)] [sv A10 C11 l9, sv a7 a6 a2, sv (some b0) a5 b8, sv e2 e3 e0] a0 115 (by kernel_rfl) (by kernel_rfl) (by kernel_rfl) (fun _ => (by kernel_rfl)) (by rw [n1]; rfl) (by kernel_rfl) (fun w G hr => (by rw [n1]; exact ⟨[sv A10 C11 l9], [sv a7 a6 a2, sv (some b0) a5 b8, sv e2 e3 e0], rfl, (hr _ (List.mem_of_getElem? (i := 4) rfl)), ⟨[sv a7 a6 a2], [sv (some b0) a5 b8, sv e2 e3 e0], rfl, (hr _ (List.mem_of_getElem? (i := 2) rfl)), ⟨[sv (some b0) a5 b8], [sv e2 e3 e0], rfl, (hr _ (List.mem_of_getElem? (i := 0) rfl)), ⟨[sv e2 e3 e0], [], rfl, (hr _ (List.mem_of_getElem? (i := 1) rfl)), rfl⟩⟩⟩⟩)) ?_)
  intro a4 w hS
  refine EL.quick 2 [115, 116, 117] [(115, sv (some ⟨a4, 0, none⟩) 4 a0), (116, ia (a0.length : Int)), (117, ia 0)] (by kernel_rfl) ?_
  refine EL.done (by kernel_rfl) ?_
  refine EQ.code ?_
  refine EW.bl 2 (by kernel_rfl) ?_
  refine EW.lp (fun n a w => ∃ a1 : Int, Sat 158 [(115, sv (some ⟨a4, 0, none⟩) 4 a0), (116, ia (a0.length : Int)), (117, ia a1)] a ∧ St B w (Ass.own 33 (Kd.slice (Kd.int .u8)) (some ⟨a4, 0, none⟩) 4 a0 :: Ass.own 9 Kd.str e5 e6 e4 :: Ass.box 54 c4 [ia c6, ib c7] :: os) (Ro.sl (Kd.int .u8) (some b0) a5 b8 :: Ro.sl (Kd.int .u8) e2 e3 e0 :: Ro.sl (Kd.int .u8) a7 a6 a2 :: Ro.sl (Kd.int .u8) (some c3) c2 c5 :: Ro.sl (Kd.int .u8) A10 C11 l9 :: rs) ∧ confidantlaw6_InstrReads.l1 K a0 n a1 = some g3) K (by kernel_rfl) ?_ (fun n a w hI => ?_)
  ·refine EQ.keep [115, 116, 117] [(115, sv (some ⟨a4, 0, none⟩) 4 a0), (116, ia (a0.length : Int)), (117, ia 0)] (by kernel_rfl) ?_
   exact fun a ha => ⟨0, ha, (hS.re [2, 2, 2] [] rfl (sub_cons 0 rfl (sub_cons 1 rfl (sub_cons 2 rfl (sub_cons 3 rfl (sub_cons 4 rfl (sub_tail (sub_tail (sub_tail (sub_tail (sub_tail (sub_self)))))))))))), H⟩
  obtain ⟨a1, ha, hS, H⟩ := hI
  obtain _ | n := n
  ·simp [confidantlaw6_InstrReads.l1] at H
  rw [confidantlaw6_InstrReads.l1.eq_2] at H
  refine EW.at ?_ a ha
  clear ha a
  refine EW.sq (by kernel_rfl) ?_
  refine EW.rg (by kernel_rfl) ?_
  refine EL.quick 1 [115, 116, 117, 118] [(115, sv (some ⟨a4, 0, none⟩) 4 a0), (116, ia (a0.length : Int)), (117, ia a1), (118, .bool (decide (a1 < (a0.length : Int))))] (by kernel_rfl) ?_
  refine EL.done (by kernel_rfl) ?_
  refine EQ.code ?_
  refine EW.sq (by kernel_rfl) ?_
  refine EW.cdP (a1 < (a0.length : Int)) (by kernel_rfl) (by kernel_rfl) (fun i4 => ?_) (fun i4 => ?_)
  ·rw [if_pos i4] at H
   refine EW.skip (by kernel_rfl) ?_
   refine EQ.code ?_
   refine EW.sq (by kernel_rfl) ?_
   refine EW.bl 3 (by kernel_rfl) ?_
   refine EW.sq (by kernel_rfl) ?_
   refine EW.rg (by kernel_rfl) ?_
   obtain ⟨m7, H⟩ := ite_in H
   refine EL.of (EO.Y (YO.idx 42 1 ⟨a4, 0, none⟩ a0.length 4 .i64 a1 119 (by kernel_rfl) (by kernel_rfl) (by kernel_rfl) (by kernel_rfl) m7 i4) ?_)
   refine EL.of (EO.loadSl hS (Kd.int .u8) ⟨a4, 0, none⟩ 4 a0 (Rd.own 0 33 rfl) a1 m7 i4 33 120 (by kernel_rfl) (by kernel_rfl) (by kernel_rfl) (by kernel_rfl) ?_)
   intro d8 d9 hS
   refine EL.quick 1 [24, 115, 116, 117] [(24, sv d8 d9 (a0.getD a1.toNat [])), (115, sv (some ⟨a4, 0, none⟩) 4 a0), (116, ia (a0.length : Int)), (117, ia a1)] (by kernel_rfl) ?_
   refine EL.done (by kernel_rfl) ?_
   refine EQ.code ?_
   refine EW.sq (by kernel_rfl) ?_
   refine EW.rg (by kernel_rfl) ?_
   refine EL.quick 1 [24, 115, 116, 117, 121] [(24, sv d8 d9 (a0.getD a1.toNat [])), (115, sv (some ⟨a4, 0, none⟩) 4 a0), (116, ia (a0.length : Int)), (117, ia a1), (121, sv d8 d9 (a0.getD a1.toNat []))] (by kernel_rfl) ?_
   have hS : St B _ (Ass.own 33 (Kd.slice (Kd.int .u8)) (some ⟨a4, 0, none⟩) 4 a0 :: Ass.own 9 Kd.str e5 e6 e4 :: Ass.box 54 c4 [ia c6, ib c7] :: os) (Ro.sl (Kd.int .u8) d8 d9 (a0.getD a1.toNat []) :: Ro.sl (Kd.int .u8) (some b0) a5 b8 :: Ro.sl (Kd.int .u8) e2 e3 e0 :: Ro.sl (Kd.int .u8) a7 a6 a2 :: Ro.sl (Kd.int .u8) (some c3) c2 c5 :: Ro.sl (Kd.int .u8) A10 C11 l9 :: rs) := hS.re [] [] rfl (sub_cons 0 rfl (sub_tail (sub_self)))
   obtain ⟨f2, m1, o9, H⟩ := b2_out H
   have hq := pack_New.calls o9 hS
   refine EL.of (EO.callD 35 [sv d8 d9 (a0.getD a1.toNat [])] _ 122 (by kernel_rfl) (by kernel_rfl) (by kernel_rfl) hq ?_)
   rintro v w ⟨b9, f3, f4, rfl, hS⟩
   refine EL.quick 2 [115, 116, 117, 122, 124] [(115, sv (some ⟨a4, 0, none⟩) 4 a0), (116, ia (a0.length : Int)), (117, ia a1), (122, pt b9 0), (124, ag [sv d8 d9 (a0.getD a1.toNat []), ia 0])] (by kernel_rfl) ?_
   refine EL.of (EO.box hS 71 (ag [sv d8 d9 (a0.getD a1.toNat []), ia 0]) [sv d8 d9 (a0.getD a1.toNat []), ia 0] 125 (by kernel_rfl) (by kernel_rfl) (by kernel_rfl) (by first | rfl | kernel_rfl) ?_)
   intro b7 w hS
   refine EL.quick 2 [25, 26, 115, 116, 117] [(25, pt b9 0), (26, pt b7 0), (115, sv (some ⟨a4, 0, none⟩) 4 a0), (116, ia (a0.length : Int)), (117, ia a1)] (by kernel_rfl) ?_
   refine EL.done (by kernel_rfl) ?_
   refine EQ.code ?_
   refine EW.sq (by kernel_rfl) ?_
   refine EW.rg (by kernel_rfl) ?_
   refine EL.quick 1 [25, 26, 115, 116, 117, 127] [(25, pt b9 0), (26, pt b7 0), (115, sv (some ⟨a4, 0, none⟩) 4 a0), (116, ia (a0.length : Int)), (117, ia a1), (127, pt b9 0)] (by kernel_rfl) ?_
   have hS : St B _ (Ass.box 112 b9 [sv f3 f4 f2, ia m1] :: Ass.box 71 b7 [sv d8 d9 (a0.getD a1.toNat []), ia 0] :: Ass.own 33 (Kd.slice (Kd.int .u8)) (some ⟨a4, 0, none⟩) 4 a0 :: Ass.own 9 Kd.str e5 e6 e4 :: Ass.box 54 c4 [ia c6, ib c7] :: os) (Ro.sl (Kd.int .u8) f3 f4 f2 :: Ro.sl (Kd.int .u8) d8 d9 (a0.getD a1.toNat []) :: Ro.sl (Kd.int .u8) (some b0) a5 b8 :: Ro.sl (Kd.int .u8) e2 e3 e0 :: Ro.sl (Kd.int .u8) a7 a6 a2 :: Ro.sl (Kd.int .u8) (some c3) c2 c5 :: Ro.sl (Kd.int .u8) A10 C11 l9 :: rs) := hS.re [1] [] rfl (sub_cons 0 rfl (sub_tail (sub_self)))
   obtain ⟨d2, e7, a8, a9, c0, p0, H⟩ := b5_out H
   have hq := instr_Take.calls p0 hS
   refine EL.of (EO.callD 34 [pt b9 0] _ 128 (by kernel_rfl) (by kernel_rfl) (by kernel_rfl) hq ?_)
   rintro v w ⟨d3, d5, rfl, hS⟩
   refine EL.quick 3 [25, 26, 115, 116, 117, 129, 130] [(25, pt b9 0), (26, pt b7 0), (115, sv (some ⟨a4, 0, none⟩) 4 a0), (116, ia (a0.length : Int)), (117, ia a1), (129, ag [ia a8, ib a9]), (130, .bool (c0))] (by kernel_rfl) ?_
   refine EL.of (EO.alloc hS 54 (ag [ia 0, ib 0]) [ia 0, ib 0] 27 (by kernel_rfl) (by kernel_rfl) (by kernel_rfl) (by kernel_rfl) (by first | rfl | kernel_rfl) ?_)
   intro d1 w hS
   refine EL.of (EO.storeBox (os' := Ass.box 54 d1 [ia a8, ib a9] :: Ass.box 112 b9 [sv d3 d5 d2, ia e7] :: Ass.box 71 b7 [sv d8 d9 (a0.getD a1.toNat []), ia 0] :: Ass.own 33 (Kd.slice (Kd.int .u8)) (some ⟨a4, 0, none⟩) 4 a0 :: Ass.own 9 Kd.str e5 e6 e4 :: Ass.box 54 c4 [ia c6, ib c7] :: os) hS 0 rfl 54 0 (ag [ia a8, ib a9]) [ia a8, ib a9] (by kernel_rfl) (by kernel_rfl) (by kernel_rfl) (by kernel_rfl) (by kernel_rfl) (by kernel_rfl) rfl rfl ?_)
   intro w hS
   refine EL.quick 1 [25, 26, 27, 28, 115, 116, 117] [(25, pt b9 0), (26, pt b7 0), (27, pt d1 0), (28, .bool (c0)), (115, sv (some ⟨a4, 0, none⟩) 4 a0), (116, ia (a0.length : Int)), (117, ia a1)] (by kernel_rfl) ?_
   refine EL.done (by kernel_rfl) ?_
   refine EQ.code ?_
   refine EW.sq (by kernel_rfl) ?_
   refine EW.rg (by kernel_rfl) ?_
   refine EL.quick 1 [25, 26, 27, 28, 115, 116, 117, 132] [(25, pt b9 0), (26, pt b7 0), (27, pt d1 0), (28, .bool (c0)), (115, sv (some ⟨a4, 0, none⟩) 4 a0), (116, ia (a0.length : Int)), (117, ia a1), (132, pt b7 0)] (by kernel_rfl) ?_
   have hS : St B _ (Ass.box 71 b7 [sv d8 d9 (a0.getD a1.toNat []), ia 0] :: Ass.box 54 d1 [ia a8, ib a9] :: Ass.box 112 b9 [sv d3 d5 d2, ia e7] :: Ass.own 33 (Kd.slice (Kd.int .u8)) (some ⟨a4, 0, none⟩) 4 a0 :: Ass.own 9 Kd.str e5 e6 e4 :: Ass.box 54 c4 [ia c6, ib c7] :: os) (Ro.sl (Kd.int .u8) d8 d9 (a0.getD a1.toNat []) :: Ro.sl (Kd.int .u8) d3 d5 d2 :: Ro.sl (Kd.int .u8) f3 f4 f2 :: Ro.sl (Kd.int .u8) (some b0) a5 b8 :: Ro.sl (Kd.int .u8) e2 e3 e0 :: Ro.sl (Kd.int .u8) a7 a6 a2 :: Ro.sl (Kd.int .u8) (some c3) c2 c5 :: Ro.sl (Kd.int .u8) A10 C11 l9 :: rs) := hS.re [2] [] rfl (sub_cons 2 rfl (sub_cons 0 rfl (sub_cons 1 rfl (sub_tail (sub_tail (sub_tail (sub_self)))))))
   obtain ⟨c9, f7, b4, b6, f5, p1, H⟩ := b5_out H
   have hq := confidantref5_Take.calls p1 hS
   refine EL.of (EO.callD 42 [pt b7 0] _ 133 (by kernel_rfl) (by kernel_rfl) (by kernel_rfl) hq ?_)
   rintro v w ⟨d4, d6, rfl, hS⟩
   refine EL.quick 3 [25, 26, 27, 28, 115, 116, 117, 134, 135] [(25, pt b9 0), (26, pt b7 0), (27, pt d1 0), (28, .bool (c0)), (115, sv (some ⟨a4, 0, none⟩) 4 a0), (116, ia (a0.length : Int)), (117, ia a1), (134, ag [ia b4, ib b6]), (135, .bool (f5))] (by kernel_rfl) ?_
   refine EL.of (EO.alloc hS 54 (ag [ia 0, ib 0]) [ia 0, ib 0] 29 (by kernel_rfl) (by kernel_rfl) (by kernel_rfl) (by kernel_rfl) (by first | rfl | kernel_rfl) ?_)
   intro d7 w hS
   refine EL.of (EO.storeBox (os' := Ass.box 54 d7 [ia b4, ib b6] :: Ass.box 71 b7 [sv d4 d6 c9, ia f7] :: Ass.box 54 d1 [ia a8, ib a9] :: Ass.box 112 b9 [sv d3 d5 d2, ia e7] :: Ass.own 33 (Kd.slice (Kd.int .u8)) (some ⟨a4, 0, none⟩) 4 a0 :: Ass.own 9 Kd.str e5 e6 e4 :: Ass.box 54 c4 [ia c6, ib c7] :: os) hS 0 rfl 54 0 (ag [ia b4, ib b6]) [ia b4, ib b6] (by kernel_rfl) (by kernel_rfl) (by kernel_rfl) (by kernel_rfl) (by kernel_rfl) (by kernel_rfl) rfl rfl ?_)
   intro w hS
   refine EL.quick 1 [25, 26, 27, 28, 29, 30, 115, 116, 117] [(25, pt b9 0), (26, pt b7 0), (27, pt d1 0), (28, .bool (c0)), (29, pt d7 0), (30, .bool (f5)), (115, sv (some ⟨a4, 0, none⟩) 4 a0), (116, ia (a0.length : Int)), (117, ia a1)] (by kernel_rfl) ?_
   refine EL.done (by kernel_rfl) ?_
   refine EQ.code ?_
   obtain ⟨g6, p6, H⟩ := lt_out H
   refine EW.ct (fun a w => ∃ i7 : List Int, ∃ j4 : Int, ∃ g9 : Bool, ∃ j5 : Option Addr, ∃ j6 : Nat, Sat 158 [(115, sv (some ⟨a4, 0, none⟩) 4 a0), (116, ia (a0.length : Int)), (117, ia a1), (156, .bool (g9))] a ∧ St B w (Ass.box 112 b9 [sv j5 j6 i7, ia j4] :: Ass.box 54 d7 [ia b4, ib b6] :: Ass.box 71 b7 [sv d4 d6 c9, ia f7] :: Ass.box 54 d1 [ia a8, ib a9] :: Ass.own 33 (Kd.slice (Kd.int .u8)) (some ⟨a4, 0, none⟩) 4 a0 :: Ass.own 9 Kd.str e5 e6 e4 :: Ass.box 54 c4 [ia c6, ib c7] :: os) (Ro.sl (Kd.int .u8) j5 j6 i7 :: Ro.sl (Kd.int .u8) d3 d5 d2 :: Ro.sl (Kd.int .u8) d4 d6 c9 :: Ro.sl (Kd.int .u8) d8 d9 (a0.getD a1.toNat []) :: Ro.sl (Kd.int .u8) f3 f4 f2 :: Ro.sl (Kd.int .u8) (some b0) a5 b8 :: Ro.sl (Kd.int .u8) e2 e3 e0 :: Ro.sl (Kd.int .u8) a7 a6 a2 :: Ro.sl (Kd.int .u8) (some c3) c2 c5 :: Ro.sl (Kd.int .u8) A10 C11 l9 :: rs) ∧ g6 i7 j4 g9 = some g3) (by kernel_rfl) ?_ (fun a w hI => ?_)
   ·by_cases g5 : (c0 == f5) = true
    ·rw [if_pos g5] at H
     by_cases i5 : ((a8 == b4) && ((a9 == b6) && true)) = true
     ·rw [if_pos i5] at H
      by_cases j0 : c0 = true
      ·rw [if_pos j0] at H
       obtain ⟨m2, m3, g2, p2, H⟩ := b3_out H
       have hS := hS.drew
       refine EW.dr (B := B) [Ass.box 54 d7 [ia b4, ib b6], Ass.box 71 b7 [sv d4 d6 c9, ia f7], Ass.box 54 d1 [ia a8, ib a9], Ass.own 33 (Kd.slice (Kd.int .u8)) (some ⟨a4, 0, none⟩) 4 a0, Ass.own 9 Kd.str e5 e6 e4, Ass.box 54 c4 [ia c6, ib c7]] [Ro.sl (Kd.int .u8) d4 d6 c9, Ro.sl (Kd.int .u8) d8 d9 (a0.getD a1.toNat []), Ro.sl (Kd.int .u8) d3 d5 d2, Ro.sl (Kd.int .u8) f3 f4 f2, Ro.sl (Kd.int .u8) (some b0) a5 b8, Ro.sl (Kd.int .u8) e2 e3 e0, Ro.sl (Kd.int .u8) a7 a6 a2, Ro.sl (Kd.int .u8) (some c3) c2 c5, Ro.sl (Kd.int .u8) A10 C11 l9] (by kernel_rfl) (by kernel_rfl) ?_
       have hN : Region.noSelect Cd10.r.r.r.r.r.r.r.r.r.r.l.r.l.l.r.r.l.l.r.r.r.r.l.ops = true := (by kernel_rfl)
       have hF : freeAll Cd10.r.r.r.r.r.r.r.r.r.r.l.r.l.l.r.r.l.l.r.r.r.r.l.ops = true := (by kernel_rfl)
       have hC : Core B [Ass.box 54 d7 [ia b4, ib b6], Ass.box 71 b7 [sv d4 d6 c9, ia f7], Ass.box 54 d1 [ia a8, ib a9], Ass.own 33 (Kd.slice (Kd.int .u8)) (some ⟨a4, 0, none⟩) 4 a0, Ass.own 9 Kd.str e5 e6 e4, Ass.box 54 c4 [ia c6, ib c7]] [Ro.sl (Kd.int .u8) d4 d6 c9, Ro.sl (Kd.int .u8) d8 d9 (a0.getD a1.toNat []), Ro.sl (Kd.int .u8) d3 d5 d2, Ro.sl (Kd.int .u8) f3 f4 f2, Ro.sl (Kd.int .u8) (some b0) a5 b8, Ro.sl (Kd.int .u8) e2 e3 e0, Ro.sl (Kd.int .u8) a7 a6 a2, Ro.sl (Kd.int .u8) (some c3) c2 c5, Ro.sl (Kd.int .u8) A10 C11 l9] _ := ⟨_, _, hS.re [6, 6, 6, 5, 5, 5] [] rfl sub_self⟩
       refine ED.quick hN hF hC [0, 1, 2, 3] [25, 26, 27, 28, 29, 115, 116, 117, 139] 17 [(25, pt b9 0), (26, pt b7 0), (27, pt d1 0), (28, .bool (c0)), (29, pt d7 0), (115, sv (some ⟨a4, 0, none⟩) 4 a0), (116, ia (a0.length : Int)), (117, ia a1), (139, .bool (!((c0 == f5))))] (bm 21 15) (by kernel_rfl) (by kernel_rfl) ?_
       refine ED.keep [25, 26, 27, 28, 29, 115, 116, 117, 139] [(25, pt b9 0), (26, pt b7 0), (27, pt d1 0), (28, .bool (c0)), (29, pt d7 0), (115, sv (some ⟨a4, 0, none⟩) 4 a0), (116, ia (a0.length : Int)), (117, ia a1), (139, .bool (!((c0 == f5))))] (by kernel_rfl) ?_
       refine ED.as' [(25, pt b9 0), (26, pt b7 0), (27, pt d1 0), (28, .bool (c0)), (29, pt d7 0), (115, sv (some ⟨a4, 0, none⟩) 4 a0), (116, ia (a0.length : Int)), (117, ia a1), (139, .bool (false))] (by simp only [sv, g5, Bool.not_true, Bool.not_false]) ?_
       refine ED.Y hN hF hC 4 16 (bm 21 31) (by kernel_rfl) (by kernel_rfl) rfl (fun _ _ _ hS => YO.loadBox hS 2 rfl 54 0 2 (ag [ia a8, ib a9]) 140 (by kernel_rfl) (by kernel_rfl) (by kernel_rfl) (by kernel_rfl)) ?_
       refine ED.Y hN hF hC 5 15 (bm 21 63) (by kernel_rfl) (by kernel_rfl) rfl (fun _ _ _ hS => YO.loadBox hS 0 rfl 54 0 2 (ag [ia b4, ib b6]) 141 (by kernel_rfl) (by kernel_rfl) (by kernel_rfl) (by kernel_rfl)) ?_
       refine ED.Y hN hF hC 6 14 (bm 21 127) (by kernel_rfl) (by kernel_rfl) rfl (fun _ _ _ hS => YO.eqAg .neq 54 (.tmp 140) (.tmp 141) #[ia a8, ib a9] #[ia b4, ib b6] ((a8 == b4) && ((a9 == b6) && true)) (!(((a8 == b4) && ((a9 == b6) && true)))) 142 (by kernel_rfl) (by kernel_rfl) (by kernel_rfl) (by kernel_rfl) (by kernel_rfl) (.inr ⟨rfl, rfl⟩)) ?_
       refine ED.quick hN hF hC [7, 8] [25, 26, 28, 115, 116, 117, 140, 141, 142, 144] 12 [(25, pt b9 0), (26, pt b7 0), (28, .bool (c0)), (115, sv (some ⟨a4, 0, none⟩) 4 a0), (116, ia (a0.length : Int)), (117, ia a1), (140, ag [ia a8, ib a9]), (141, ag [ia b4, ib b6]), (142, .bool (!(((a8 == b4) && ((a9 == b6) && true))))), (144, .bool (!(((a8 == b4) && ((a9 == b6) && true)))))] (bm 21 511) (by kernel_rfl) (by kernel_rfl) ?_
       refine ED.keep [25, 26, 28, 115, 116, 117, 140, 141, 142, 144] [(25, pt b9 0), (26, pt b7 0), (28, .bool (c0)), (115, sv (some ⟨a4, 0, none⟩) 4 a0), (116, ia (a0.length : Int)), (117, ia a1), (140, ag [ia a8, ib a9]), (141, ag [ia b4, ib b6]), (142, .bool (!(((a8 == b4) && ((a9 == b6) && true))))), (144, .bool (!(((a8 == b4) && ((a9 == b6) && true)))))] (by kernel_rfl) ?_
       refine ED.as' [(25, pt b9 0), (26, pt b7 0), (28, .bool (c0)), (115, sv (some ⟨a4, 0, none⟩) 4 a0), (116, ia (a0.length : Int)), (117, ia a1), (140, ag [ia a8, ib a9]), (141, ag [ia b4, ib b6]), (142, .bool (false)), (144, .bool (false))] (by simp only [sv, i5, Bool.not_true, Bool.not_false]) ?_
       refine ED.quick hN hF hC [9, 10] [25, 26, 115, 116, 117, 140, 141, 142, 144, 145, 146] 10 [(25, pt b9 0), (26, pt b7 0), (115, sv (some ⟨a4, 0, none⟩) 4 a0), (116, ia (a0.length : Int)), (117, ia a1), (140, ag [ia a8, ib a9]), (141, ag [ia b4, ib b6]), (142, .bool (false)), (144, .bool (false)), (145, .bool (c0)), (146, .bool (c0))] (bm 21 2047) (by kernel_rfl) (by kernel_rfl) ?_
       refine ED.keep [25, 26, 115, 116, 117, 140, 141, 142, 144, 145, 146] [(25, pt b9 0), (26, pt b7 0), (115, sv (some ⟨a4, 0, none⟩) 4 a0), (116, ia (a0.length : Int)), (117, ia a1), (140, ag [ia a8, ib a9]), (141, ag [ia b4, ib b6]), (142, .bool (false)), (144, .bool (false)), (145, .bool (c0)), (146, .bool (c0))] (by kernel_rfl) ?_
       refine ED.as' [(25, pt b9 0), (26, pt b7 0), (115, sv (some ⟨a4, 0, none⟩) 4 a0), (116, ia (a0.length : Int)), (117, ia a1), (140, ag [ia a8, ib a9]), (141, ag [ia b4, ib b6]), (142, .bool (false)), (144, .bool (false)), (145, .bool (true)), (146, .bool (true))] (by simp only [sv, j0, Bool.not_true, Bool.not_false]) ?_
       refine ED.quick hN hF hC [11, 13, 14, 15] [115, 116, 117, 140, 141, 142, 144, 145, 146, 147, 149, 150, 151] 6 [(115, sv (some ⟨a4, 0, none⟩) 4 a0), (116, ia (a0.length : Int)), (117, ia a1), (140, ag [ia a8, ib a9]), (141, ag [ia b4, ib b6]), (142, .bool (false)), (144, .bool (false)), (145, .bool (true)), (146, .bool (true)), (147, pt b9 0), (149, pt b7 0), (150, pt b7 0), (151, pt b7 0)] (bm 21 61439) (by kernel_rfl) (by kernel_rfl) ?_
       refine ED.Y hN hF hC 16 5 (bm 21 126975) (by kernel_rfl) (by kernel_rfl) rfl (fun _ _ _ hS => YO.loadBox hS 1 rfl 33 0 1 (sv d4 d6 c9) 152 (by kernel_rfl) (by kernel_rfl) (by kernel_rfl) (by kernel_rfl)) ?_
       refine ED.quick hN hF hC [17] [115, 116, 117, 140, 141, 142, 144, 145, 146, 147, 149, 150, 151, 152, 153] 4 [(115, sv (some ⟨a4, 0, none⟩) 4 a0), (116, ia (a0.length : Int)), (117, ia a1), (140, ag [ia a8, ib a9]), (141, ag [ia b4, ib b6]), (142, .bool (false)), (144, .bool (false)), (145, .bool (true)), (146, .bool (true)), (147, pt b9 0), (149, pt b7 0), (150, pt b7 0), (151, pt b7 0), (152, sv d4 d6 c9), (153, ia (c9.length : Int))] (bm 21 258047) (by kernel_rfl) (by kernel_rfl) ?_
       have hS : St B _ (Ass.box 112 b9 [sv d3 d5 d2, ia e7] :: Ass.box 54 d7 [ia b4, ib b6] :: Ass.box 71 b7 [sv d4 d6 c9, ia f7] :: Ass.box 54 d1 [ia a8, ib a9] :: Ass.own 33 (Kd.slice (Kd.int .u8)) (some ⟨a4, 0, none⟩) 4 a0 :: Ass.own 9 Kd.str e5 e6 e4 :: Ass.box 54 c4 [ia c6, ib c7] :: os) (Ro.sl (Kd.int .u8) d3 d5 d2 :: Ro.sl (Kd.int .u8) d4 d6 c9 :: Ro.sl (Kd.int .u8) d8 d9 (a0.getD a1.toNat []) :: Ro.sl (Kd.int .u8) f3 f4 f2 :: Ro.sl (Kd.int .u8) (some b0) a5 b8 :: Ro.sl (Kd.int .u8) e2 e3 e0 :: Ro.sl (Kd.int .u8) a7 a6 a2 :: Ro.sl (Kd.int .u8) (some c3) c2 c5 :: Ro.sl (Kd.int .u8) A10 C11 l9 :: rs) := hS.re [3] [] rfl (sub_cons 2 rfl (sub_cons 0 rfl (sub_cons 1 rfl (sub_tail (sub_tail (sub_tail (sub_self)))))))
       have hq := pack_Reader_Left.calls p2 hS
       refine ED.one 12 3 (bm 21 262143) (by kernel_rfl) (by kernel_rfl) (by kernel_rfl) (EO.callD 40 [pt b9 0] _ 148 (by kernel_rfl) (by kernel_rfl) (by kernel_rfl) hq ?_)
       rintro v w ⟨n2, n3, rfl, hS⟩
       have hC := hC.again ⟨_, _, hS.re [6, 6, 6, 6, 6, 6] [] rfl (sub_cons 2 rfl (sub_cons 3 rfl (sub_cons 1 rfl (sub_cons 4 rfl (sub_cons 5 rfl (sub_cons 6 rfl (sub_cons 7 rfl (sub_cons 8 rfl (sub_cons 9 rfl sub_self)))))))))⟩
       refine ⟨hC, ?_⟩
       refine ED.quick hN hF hC [18, 19, 20] [115, 116, 117, 140, 141, 142, 145, 146, 147, 148, 149, 150, 151, 152, 153, 154, 155, 156] 0 [(115, sv (some ⟨a4, 0, none⟩) 4 a0), (116, ia (a0.length : Int)), (117, ia a1), (140, ag [ia a8, ib a9]), (141, ag [ia b4, ib b6]), (142, .bool (false)), (145, .bool (true)), (146, .bool (true)), (147, pt b9 0), (148, ia g2), (149, pt b7 0), (150, pt b7 0), (151, pt b7 0), (152, sv d4 d6 c9), (153, ia (c9.length : Int)), (154, .bool (!(decide (g2 = (c9.length : Int))))), (155, .bool (!(decide (g2 = (c9.length : Int))))), (156, .bool (!(decide (g2 = (c9.length : Int)))))] (bm 21 2097151) (by kernel_rfl) (by kernel_rfl) ?_
       refine ED.done (by kernel_rfl) ?_
       refine EQ.to ?_
       refine EQ.keep [115, 116, 117, 156] [(115, sv (some ⟨a4, 0, none⟩) 4 a0), (116, ia (a0.length : Int)), (117, ia a1), (156, .bool (!(decide (g2 = (c9.length : Int)))))] (by kernel_rfl) ?_
       exact fun a ha => ⟨m2, m3, !(decide (g2 = (c9.length : Int))), n2, n3, ha, (hS.re [6, 6, 6, 6, 6, 6, 6] [] rfl (sub_cons 0 rfl (sub_cons 1 rfl (sub_cons 2 rfl (sub_cons 3 rfl (sub_cons 4 rfl (sub_cons 5 rfl (sub_cons 6 rfl (sub_cons 7 rfl (sub_cons 8 rfl (sub_cons 9 rfl (sub_tail (sub_tail (sub_tail (sub_tail (sub_tail (sub_tail (sub_tail (sub_tail (sub_tail (sub_tail (sub_self)))))))))))))))))))))), H⟩
      rw [if_neg j0] at H
      have hS := hS.drew
      refine EW.dr (B := B) [Ass.box 54 d7 [ia b4, ib b6], Ass.box 71 b7 [sv d4 d6 c9, ia f7], Ass.box 54 d1 [ia a8, ib a9], Ass.box 112 b9 [sv d3 d5 d2, ia e7], Ass.own 33 (Kd.slice (Kd.int .u8)) (some ⟨a4, 0, none⟩) 4 a0, Ass.own 9 Kd.str e5 e6 e4, Ass.box 54 c4 [ia c6, ib c7]] [Ro.sl (Kd.int .u8) d4 d6 c9, Ro.sl (Kd.int .u8) d8 d9 (a0.getD a1.toNat []), Ro.sl (Kd.int .u8) d3 d5 d2, Ro.sl (Kd.int .u8) f3 f4 f2, Ro.sl (Kd.int .u8) (some b0) a5 b8, Ro.sl (Kd.int .u8) e2 e3 e0, Ro.sl (Kd.int .u8) a7 a6 a2, Ro.sl (Kd.int .u8) (some c3) c2 c5, Ro.sl (Kd.int .u8) A10 C11 l9] (by kernel_rfl) (by kernel_rfl) ?_
      have hN : Region.noSelect Cd10.r.r.r.r.r.r.r.r.r.r.l.r.l.l.r.r.l.l.r.r.r.r.l.ops = true := (by kernel_rfl)
      have hF : freeAll Cd10.r.r.r.r.r.r.r.r.r.r.l.r.l.l.r.r.l.l.r.r.r.r.l.ops = true := (by kernel_rfl)
      have hC : Core B [Ass.box 54 d7 [ia b4, ib b6], Ass.box 71 b7 [sv d4 d6 c9, ia f7], Ass.box 54 d1 [ia a8, ib a9], Ass.box 112 b9 [sv d3 d5 d2, ia e7], Ass.own 33 (Kd.slice (Kd.int .u8)) (some ⟨a4, 0, none⟩) 4 a0, Ass.own 9 Kd.str e5 e6 e4, Ass.box 54 c4 [ia c6, ib c7]] [Ro.sl (Kd.int .u8) d4 d6 c9, Ro.sl (Kd.int .u8) d8 d9 (a0.getD a1.toNat []), Ro.sl (Kd.int .u8) d3 d5 d2, Ro.sl (Kd.int .u8) f3 f4 f2, Ro.sl (Kd.int .u8) (some b0) a5 b8, Ro.sl (Kd.int .u8) e2 e3 e0, Ro.sl (Kd.int .u8) a7 a6 a2, Ro.sl (Kd.int .u8) (some c3) c2 c5, Ro.sl (Kd.int .u8) A10 C11 l9] _ := ⟨_, _, hS⟩
      refine ED.quick hN hF hC [0, 1, 2, 3] [25, 26, 27, 28, 29, 115, 116, 117, 139] 17 [(25, pt b9 0), (26, pt b7 0), (27, pt d1 0), (28, .bool (c0)), (29, pt d7 0), (115, sv (some ⟨a4, 0, none⟩) 4 a0), (116, ia (a0.length : Int)), (117, ia a1), (139, .bool (!((c0 == f5))))] (bm 21 15) (by kernel_rfl) (by kernel_rfl) ?_
      refine ED.keep [25, 26, 27, 28, 29, 115, 116, 117, 139] [(25, pt b9 0), (26, pt b7 0), (27, pt d1 0), (28, .bool (c0)), (29, pt d7 0), (115, sv (some ⟨a4, 0, none⟩) 4 a0), (116, ia (a0.length : Int)), (117, ia a1), (139, .bool (!((c0 == f5))))] (by kernel_rfl) ?_
      refine ED.as' [(25, pt b9 0), (26, pt b7 0), (27, pt d1 0), (28, .bool (c0)), (29, pt d7 0), (115, sv (some ⟨a4, 0, none⟩) 4 a0), (116, ia (a0.length : Int)), (117, ia a1), (139, .bool (false))] (by simp only [sv, g5, Bool.not_true, Bool.not_false]) ?_
      refine ED.Y hN hF hC 4 16 (bm 21 31) (by kernel_rfl) (by kernel_rfl) rfl (fun _ _ _ hS => YO.loadBox hS 2 rfl 54 0 2 (ag [ia a8, ib a9]) 140 (by kernel_rfl) (by kernel_rfl) (by kernel_rfl) (by kernel_rfl)) ?_
      refine ED.Y hN hF hC 5 15 (bm 21 63) (by kernel_rfl) (by kernel_rfl) rfl (fun _ _ _ hS => YO.loadBox hS 0 rfl 54 0 2 (ag [ia b4, ib b6]) 141 (by kernel_rfl) (by kernel_rfl) (by kernel_rfl) (by kernel_rfl)) ?_
      refine ED.Y hN hF hC 6 14 (bm 21 127) (by kernel_rfl) (by kernel_rfl) rfl (fun _ _ _ hS => YO.eqAg .neq 54 (.tmp 140) (.tmp 141) #[ia a8, ib a9] #[ia b4, ib b6] ((a8 == b4) && ((a9 == b6) && true)) (!(((a8 == b4) && ((a9 == b6) && true)))) 142 (by kernel_rfl) (by kernel_rfl) (by kernel_rfl) (by kernel_rfl) (by kernel_rfl) (.inr ⟨rfl, rfl⟩)) ?_
      refine ED.quick hN hF hC [7, 8] [25, 26, 28, 115, 116, 117, 140, 141, 142, 144] 12 [(25, pt b9 0), (26, pt b7 0), (28, .bool (c0)), (115, sv (some ⟨a4, 0, none⟩) 4 a0), (116, ia (a0.length : Int)), (117, ia a1), (140, ag [ia a8, ib a9]), (141, ag [ia b4, ib b6]), (142, .bool (!(((a8 == b4) && ((a9 == b6) && true))))), (144, .bool (!(((a8 == b4) && ((a9 == b6) && true)))))] (bm 21 511) (by kernel_rfl) (by kernel_rfl) ?_
      refine ED.keep [25, 26, 28, 115, 116, 117, 140, 141, 142, 144] [(25, pt b9 0), (26, pt b7 0), (28, .bool (c0)), (115, sv (some ⟨a4, 0, none⟩) 4 a0), (116, ia (a0.length : Int)), (117, ia a1), (140, ag [ia a8, ib a9]), (141, ag [ia b4, ib b6]), (142, .bool (!(((a8 == b4) && ((a9 == b6) && true))))), (144, .bool (!(((a8 == b4) && ((a9 == b6) && true)))))] (by kernel_rfl) ?_
      refine ED.as' [(25, pt b9 0), (26, pt b7 0), (28, .bool (c0)), (115, sv (some ⟨a4, 0, none⟩) 4 a0), (116, ia (a0.length : Int)), (117, ia a1), (140, ag [ia a8, ib a9]), (141, ag [ia b4, ib b6]), (142, .bool (false)), (144, .bool (false))] (by simp only [sv, i5, Bool.not_true, Bool.not_false]) ?_
      refine ED.quick hN hF hC [9, 10] [25, 26, 115, 116, 117, 140, 141, 142, 144, 145, 146] 10 [(25, pt b9 0), (26, pt b7 0), (115, sv (some ⟨a4, 0, none⟩) 4 a0), (116, ia (a0.length : Int)), (117, ia a1), (140, ag [ia a8, ib a9]), (141, ag [ia b4, ib b6]), (142, .bool (false)), (144, .bool (false)), (145, .bool (c0)), (146, .bool (c0))] (bm 21 2047) (by kernel_rfl) (by kernel_rfl) ?_
      refine ED.keep [25, 26, 115, 116, 117, 140, 141, 142, 144, 145, 146] [(25, pt b9 0), (26, pt b7 0), (115, sv (some ⟨a4, 0, none⟩) 4 a0), (116, ia (a0.length : Int)), (117, ia a1), (140, ag [ia a8, ib a9]), (141, ag [ia b4, ib b6]), (142, .bool (false)), (144, .bool (false)), (145, .bool (c0)), (146, .bool (c0))] (by kernel_rfl) ?_
      refine ED.as' [(25, pt b9 0), (26, pt b7 0), (115, sv (some ⟨a4, 0, none⟩) 4 a0), (116, ia (a0.length : Int)), (117, ia a1), (140, ag [ia a8, ib a9]), (141, ag [ia b4, ib b6]), (142, .bool (false)), (144, .bool (false)), (145, .bool (false)), (146, .bool (false))] (by simp only [sv, (Bool.eq_false_iff.2 j0), Bool.not_true, Bool.not_false]) ?_
      refine ED.quick hN hF hC [11, 12, 13, 14, 15, 16, 17, 18, 19, 20] [115, 116, 117, 140, 141, 142, 145, 146, 147, 148, 149, 150, 151, 152, 153, 154, 155, 156] 0 [(115, sv (some ⟨a4, 0, none⟩) 4 a0), (116, ia (a0.length : Int)), (117, ia a1), (140, ag [ia a8, ib a9]), (141, ag [ia b4, ib b6]), (142, .bool (false)), (145, .bool (false)), (146, .bool (false)), (147, undef), (148, undef), (149, undef), (150, undef), (151, undef), (152, undef), (153, undef), (154, undef), (155, .bool (false)), (156, .bool (false))] (bm 21 2097151) (by kernel_rfl) (by kernel_rfl) ?_
      refine ED.done (by kernel_rfl) ?_
      refine EQ.to ?_
      refine EQ.keep [115, 116, 117, 156] [(115, sv (some ⟨a4, 0, none⟩) 4 a0), (116, ia (a0.length : Int)), (117, ia a1), (156, .bool (false))] (by kernel_rfl) ?_
      exact fun a ha => ⟨d2, e7, false, d3, d5, ha, (hS.re [6, 6, 6, 5, 5, 5, 6] [] rfl (sub_cons 2 rfl (sub_cons 2 rfl (sub_cons 0 rfl (sub_cons 1 rfl (sub_cons 3 rfl (sub_cons 4 rfl (sub_cons 5 rfl (sub_cons 6 rfl (sub_cons 7 rfl (sub_cons 8 rfl (sub_tail (sub_tail (sub_tail (sub_tail (sub_tail (sub_tail (sub_tail (sub_tail (sub_tail (sub_self))))))))))))))))))))), H⟩
     rw [if_neg i5] at H
     have hS := hS.drew
     refine EW.dr (B := B) [Ass.box 54 d7 [ia b4, ib b6], Ass.box 71 b7 [sv d4 d6 c9, ia f7], Ass.box 54 d1 [ia a8, ib a9], Ass.box 112 b9 [sv d3 d5 d2, ia e7], Ass.own 33 (Kd.slice (Kd.int .u8)) (some ⟨a4, 0, none⟩) 4 a0, Ass.own 9 Kd.str e5 e6 e4, Ass.box 54 c4 [ia c6, ib c7]] [Ro.sl (Kd.int .u8) d4 d6 c9, Ro.sl (Kd.int .u8) d8 d9 (a0.getD a1.toNat []), Ro.sl (Kd.int .u8) d3 d5 d2, Ro.sl (Kd.int .u8) f3 f4 f2, Ro.sl (Kd.int .u8) (some b0) a5 b8, Ro.sl (Kd.int .u8) e2 e3 e0, Ro.sl (Kd.int .u8) a7 a6 a2, Ro.sl (Kd.int .u8) (some c3) c2 c5, Ro.sl (Kd.int .u8) A10 C11 l9] (by kernel_rfl) (by kernel_rfl) ?_
     have hN : Region.noSelect Cd10.r.r.r.r.r.r.r.r.r.r.l.r.l.l.r.r.l.l.r.r.r.r.l.ops = true := (by kernel_rfl)
     have hF : freeAll Cd10.r.r.r.r.r.r.r.r.r.r.l.r.l.l.r.r.l.l.r.r.r.r.l.ops = true := (by kernel_rfl)
     have hC : Core B [Ass.box 54 d7 [ia b4, ib b6], Ass.box 71 b7 [sv d4 d6 c9, ia f7], Ass.box 54 d1 [ia a8, ib a9], Ass.box 112 b9 [sv d3 d5 d2, ia e7], Ass.own 33 (Kd.slice (Kd.int .u8)) (some ⟨a4, 0, none⟩) 4 a0, Ass.own 9 Kd.str e5 e6 e4, Ass.box 54 c4 [ia c6, ib c7]] [Ro.sl (Kd.int .u8) d4 d6 c9, Ro.sl (Kd.int .u8) d8 d9 (a0.getD a1.toNat []), Ro.sl (Kd.int .u8) d3 d5 d2, Ro.sl (Kd.int .u8) f3 f4 f2, Ro.sl (Kd.int .u8) (some b0) a5 b8, Ro.sl (Kd.int .u8) e2 e3 e0, Ro.sl (Kd.int .u8) a7 a6 a2, Ro.sl (Kd.int .u8) (some c3) c2 c5, Ro.sl (Kd.int .u8) A10 C11 l9] _ := ⟨_, _, hS⟩
     refine ED.quick hN hF hC [0, 1, 2, 3] [25, 26, 27, 28, 29, 115, 116, 117, 139] 17 [(25, pt b9 0), (26, pt b7 0), (27, pt d1 0), (28, .bool (c0)), (29, pt d7 0), (115, sv (some ⟨a4, 0, none⟩) 4 a0), (116, ia (a0.length : Int)), (117, ia a1), (139, .bool (!((c0 == f5))))] (bm 21 15) (by kernel_rfl) (by kernel_rfl) ?_
     refine ED.keep [25, 26, 27, 28, 29, 115, 116, 117, 139] [(25, pt b9 0), (26, pt b7 0), (27, pt d1 0), (28, .bool (c0)), (29, pt d7 0), (115, sv (some ⟨a4, 0, none⟩) 4 a0), (116, ia (a0.length : Int)), (117, ia a1), (139, .bool (!((c0 == f5))))] (by kernel_rfl) ?_
     refine ED.as' [(25, pt b9 0), (26, pt b7 0), (27, pt d1 0), (28, .bool (c0)), (29, pt d7 0), (115, sv (some ⟨a4, 0, none⟩) 4 a0), (116, ia (a0.length : Int)), (117, ia a1), (139, .bool (false))] (by simp only [sv, g5, Bool.not_true, Bool.not_false]) ?_
     refine ED.Y hN hF hC 4 16 (bm 21 31) (by kernel_rfl) (by kernel_rfl) rfl (fun _ _ _ hS => YO.loadBox hS 2 rfl 54 0 2 (ag [ia a8, ib a9]) 140 (by kernel_rfl) (by kernel_rfl) (by kernel_rfl) (by kernel_rfl)) ?_
     refine ED.Y hN hF hC 5 15 (bm 21 63) (by kernel_rfl) (by kernel_rfl) rfl (fun _ _ _ hS => YO.loadBox hS 0 rfl 54 0 2 (ag [ia b4, ib b6]) 141 (by kernel_rfl) (by kernel_rfl) (by kernel_rfl) (by kernel_rfl)) ?_
     refine ED.Y hN hF hC 6 14 (bm 21 127) (by kernel_rfl) (by kernel_rfl) rfl (fun _ _ _ hS => YO.eqAg .neq 54 (.tmp 140) (.tmp 141) #[ia a8, ib a9] #[ia b4, ib b6] ((a8 == b4) && ((a9 == b6) && true)) (!(((a8 == b4) && ((a9 == b6) && true)))) 142 (by kernel_rfl) (by kernel_rfl) (by kernel_rfl) (by kernel_rfl) (by kernel_rfl) (.inr ⟨rfl, rfl⟩)) ?_
     refine ED.quick hN hF hC [7, 8] [25, 26, 28, 115, 116, 117, 140, 141, 142, 144] 12 [(25, pt b9 0), (26, pt b7 0), (28, .bool (c0)), (115, sv (some ⟨a4, 0, none⟩) 4 a0), (116, ia (a0.length : Int)), (117, ia a1), (140, ag [ia a8, ib a9]), (141, ag [ia b4, ib b6]), (142, .bool (!(((a8 == b4) && ((a9 == b6) && true))))), (144, .bool (!(((a8 == b4) && ((a9 == b6) && true)))))] (bm 21 511) (by kernel_rfl) (by kernel_rfl) ?_
     refine ED.keep [25, 26, 28, 115, 116, 117, 140, 141, 142, 144] [(25, pt b9 0), (26, pt b7 0), (28, .bool (c0)), (115, sv (some ⟨a4, 0, none⟩) 4 a0), (116, ia (a0.length : Int)), (117, ia a1), (140, ag [ia a8, ib a9]), (141, ag [ia b4, ib b6]), (142, .bool (!(((a8 == b4) && ((a9 == b6) && true))))), (144, .bool (!(((a8 == b4) && ((a9 == b6) && true)))))] (by kernel_rfl) ?_
     refine ED.as' [(25, pt b9 0), (26, pt b7 0), (28, .bool (c0)), (115, sv (some ⟨a4, 0, none⟩) 4 a0), (116, ia (a0.length : Int)), (117, ia a1), (140, ag [ia a8, ib a9]), (141, ag [ia b4, ib b6]), (142, .bool (true)), (144, .bool (true))] (by simp only [sv, (Bool.eq_false_iff.2 i5), Bool.not_true, Bool.not_false]) ?_
     refine ED.quick hN hF hC [9, 10, 11, 12, 13, 14, 15, 16, 17, 18, 19, 20] [115, 116, 117, 140, 141, 142, 145, 146, 147, 148, 149, 150, 151, 152, 153, 154, 155, 156] 0 [(115, sv (some ⟨a4, 0, none⟩) 4 a0), (116, ia (a0.length : Int)), (117, ia a1), (140, ag [ia a8, ib a9]), (141, ag [ia b4, ib b6]), (142, .bool (true)), (145, undef), (146, undef), (147, undef), (148, undef), (149, undef), (150, undef), (151, undef), (152, undef), (153, undef), (154, undef), (155, undef), (156, .bool (true))] (bm 21 2097151) (by kernel_rfl) (by kernel_rfl) ?_
     refine ED.done (by kernel_rfl) ?_
     refine EQ.to ?_
     refine EQ.keep [115, 116, 117, 156] [(115, sv (some ⟨a4, 0, none⟩) 4 a0), (116, ia (a0.length : Int)), (117, ia a1), (156, .bool (true))] (by kernel_rfl) ?_
     exact fun a ha => ⟨d2, e7, true, d3, d5, ha, (hS.re [6, 6, 6, 5, 5, 5, 6] [] rfl (sub_cons 2 rfl (sub_cons 2 rfl (sub_cons 0 rfl (sub_cons 1 rfl (sub_cons 3 rfl (sub_cons 4 rfl (sub_cons 5 rfl (sub_cons 6 rfl (sub_cons 7 rfl (sub_cons 8 rfl (sub_tail (sub_tail (sub_tail (sub_tail (sub_tail (sub_tail (sub_tail (sub_tail (sub_tail (sub_self))))))))))))))))))))), H⟩
    rw [if_neg g5] at H
    have hS := hS.drew
    refine EW.dr (B := B) [Ass.box 54 d7 [ia b4, ib b6], Ass.box 71 b7 [sv d4 d6 c9, ia f7], Ass.box 54 d1 [ia a8, ib a9], Ass.box 112 b9 [sv d3 d5 d2, ia e7], Ass.own 33 (Kd.slice (Kd.int .u8)) (some ⟨a4, 0, none⟩) 4 a0, Ass.own 9 Kd.str e5 e6 e4, Ass.box 54 c4 [ia c6, ib c7]] [Ro.sl (Kd.int .u8) d4 d6 c9, Ro.sl (Kd.int .u8) d8 d9 (a0.getD a1.toNat []), Ro.sl (Kd.int .u8) d3 d5 d2, Ro.sl (Kd.int .u8) f3 f4 f2, Ro.sl (Kd.int .u8) (some b0) a5 b8, Ro.sl (Kd.int .u8) e2 e3 e0, Ro.sl (Kd.int .u8) a7 a6 a2, Ro.sl (Kd.int .u8) (some c3) c2 c5, Ro.sl (Kd.int .u8) A10 C11 l9] (by kernel_rfl) (by kernel_rfl) ?_
    have hN : Region.noSelect Cd10.r.r.r.r.r.r.r.r.r.r.l.r.l.l.r.r.l.l.r.r.r.r.l.ops = true := (by kernel_rfl)
    have hF : freeAll Cd10.r.r.r.r.r.r.r.r.r.r.l.r.l.l.r.r.l.l.r.r.r.r.l.ops = true := (by kernel_rfl)
    have hC : Core B [Ass.box 54 d7 [ia b4, ib b6], Ass.box 71 b7 [sv d4 d6 c9, ia f7], Ass.box 54 d1 [ia a8, ib a9], Ass.box 112 b9 [sv d3 d5 d2, ia e7], Ass.own 33 (Kd.slice (Kd.int .u8)) (some ⟨a4, 0, none⟩) 4 a0, Ass.own 9 Kd.str e5 e6 e4, Ass.box 54 c4 [ia c6, ib c7]] [Ro.sl (Kd.int .u8) d4 d6 c9, Ro.sl (Kd.int .u8) d8 d9 (a0.getD a1.toNat []), Ro.sl (Kd.int .u8) d3 d5 d2, Ro.sl (Kd.int .u8) f3 f4 f2, Ro.sl (Kd.int .u8) (some b0) a5 b8, Ro.sl (Kd.int .u8) e2 e3 e0, Ro.sl (Kd.int .u8) a7 a6 a2, Ro.sl (Kd.int .u8) (some c3) c2 c5, Ro.sl (Kd.int .u8) A10 C11 l9] _ := ⟨_, _, hS⟩
    refine ED.quick hN hF hC [0, 1, 2, 3] [25, 26, 27, 28, 29, 115, 116, 117, 139] 17 [(25, pt b9 0), (26, pt b7 0), (27, pt d1 0), (28, .bool (c0)), (29, pt d7 0), (115, sv (some ⟨a4, 0, none⟩) 4 a0), (116, ia (a0.length : Int)), (117, ia a1), (139, .bool (!((c0 == f5))))] (bm 21 15) (by kernel_rfl) (by kernel_rfl) ?_
    refine ED.keep [25, 26, 27, 28, 29, 115, 116, 117, 139] [(25, pt b9 0), (26, pt b7 0), (27, pt d1 0), (28, .bool (c0)), (29, pt d7 0), (115, sv (some ⟨a4, 0, none⟩) 4 a0), (116, ia (a0.length : Int)), (117, ia a1), (139, .bool (!((c0 == f5))))] (by kernel_rfl) ?_
    refine ED.as' [(25, pt b9 0), (26, pt b7 0), (27, pt d1 0), (28, .bool (c0)), (29, pt d7 0), (115, sv (some ⟨a4, 0, none⟩) 4 a0), (116, ia (a0.length : Int)), (117, ia a1), (139, .bool (true))] (by simp only [sv, (Bool.eq_false_iff.2 g5), Bool.not_true, Bool.not_false]) ?_
    refine ED.quick hN hF hC [4, 5, 6, 7, 8, 9, 10, 11, 12, 13, 14, 15, 16, 17, 18, 19, 20] [115, 116, 117, 140, 141, 142, 145, 146, 147, 148, 149, 150, 151, 152, 153, 154, 155, 156] 0 [(115, sv (some ⟨a4, 0, none⟩) 4 a0), (116, ia (a0.length : Int)), (117, ia a1), (140, undef), (141, undef), (142, undef), (145, undef), (146, undef), (147, undef), (148, undef), (149, undef), (150, undef), (151, undef), (152, undef), (153, undef), (154, undef), (155, undef), (156, .bool (true))] (bm 21 2097151) (by kernel_rfl) (by kernel_rfl) ?_
    refine ED.done (by kernel_rfl) ?_
    refine EQ.to ?_
    refine EQ.keep [115, 116, 117, 156] [(115, sv (some ⟨a4, 0, none⟩) 4 a0), (116, ia (a0.length : Int)), (117, ia a1), (156, .bool (true))] (by kernel_rfl) ?_
    exact fun a ha => ⟨d2, e7, true, d3, d5, ha, (hS.re [6, 6, 6, 5, 5, 5, 6] [] rfl (sub_cons 2 rfl (sub_cons 2 rfl (sub_cons 0 rfl (sub_cons 1 rfl (sub_cons 3 rfl (sub_cons 4 rfl (sub_cons 5 rfl (sub_cons 6 rfl (sub_cons 7 rfl (sub_cons 8 rfl (sub_tail (sub_tail (sub_tail (sub_tail (sub_tail (sub_tail (sub_tail (sub_tail (sub_tail (sub_self))))))))))))))))))))), H⟩
   obtain ⟨i7, j4, g9, j5, j6, ha, hS, H⟩ := hI
   rw [p6] at H
   (try dsimp only at H)
   refine EW.at ?_ a ha
   clear ha a
   refine EW.cdP' (g9) (by kernel_rfl) (by kernel_rfl) (fun m0 => ?_) (fun m0 => ?_)
   ·rw [if_pos m0] at H
    refine EW.sq (by kernel_rfl) ?_
    refine EW.rg (by kernel_rfl) ?_
    refine EL.quick 1 [12] [(12, .bool (false))] (by kernel_rfl) ?_
    refine EL.done (by kernel_rfl) ?_
    refine EQ.code ?_
    refine EW.ret (by kernel_rfl) ?_
    refine EQ.ret ?_
    refine EQ.ret ?_
    refine EQ.ret ?_
    refine EQ.ret ?_
    refine EQ.ret ?_
    obtain rfl := Option.some.inj H
    exact EQ.leave (.bool (false)) (by kernel_rfl) ⟨_, rfl, rfl, (hS.re [] [0, 0, 0, 0, 0, 0, 0] rfl (sub_tail (sub_tail (sub_tail (sub_tail (sub_tail (sub_tail (sub_tail (sub_tail (sub_tail (sub_self)))))))))))⟩
   rw [if_neg m0] at H
   refine EW.skip (by kernel_rfl) ?_
   refine EQ.pop ?_
   refine EQ.code ?_
   refine EW.rg (by kernel_rfl) ?_
   refine EL.quick 2 [115, 116, 117] [(115, sv (some ⟨a4, 0, none⟩) 4 a0), (116, ia (a0.length : Int)), (117, ia (IntKind.i64.wrap (a1 + 1)))] (by kernel_rfl) ?_
   refine EL.done (by kernel_rfl) ?_
   refine EQ.to ?_
   refine EQ.keep [115, 116, 117] [(115, sv (some ⟨a4, 0, none⟩) 4 a0), (116, ia (a0.length : Int)), (117, ia (IntKind.i64.wrap (a1 + 1)))] (by kernel_rfl) ?_
   exact fun a ha => ⟨n, Nat.lt_succ_self n, IntKind.i64.wrap (a1 + 1), ha, (hS.re [6, 6, 6] [3, 3, 3, 3] rfl (sub_cons 5 rfl (sub_cons 6 rfl (sub_cons 7 rfl (sub_cons 8 rfl (sub_cons 9 rfl (sub_tail (sub_tail (sub_tail (sub_tail (sub_tail (sub_tail (sub_tail (sub_tail (sub_tail (sub_tail (sub_self))))))))))))))))), H⟩
  rw [if_neg i4] at H
  refine EW.exit (id := 2) (by kernel_rfl) ?_
  refine EQ.exitCode ?_
  refine EQ.exitTo ?_
  refine EQ.exitHere ?_
  refine EQ.code ?_
  refine EW.sq (by kernel_rfl) ?_
  refine EW.rg (by kernel_rfl) ?_
  refine EL.quick 1 [12] [(12, .bool (true))] (by kernel_rfl) ?_
  refine EL.done (by kernel_rfl) ?_
  refine EQ.code ?_
  refine EW.ret (by kernel_rfl) ?_
  obtain rfl := Option.some.inj H
  exact EQ.leave (.bool (true)) (by kernel_rfl) ⟨_, rfl, rfl, (hS.re [] [0, 0, 0] rfl (sub_tail (sub_tail (sub_tail (sub_tail (sub_self))))))⟩
 rw [if_neg j7] at H
 refine EW.sq (by kernel_rfl) ?_
 refine EW.rg (by kernel_rfl) ?_
 refine EL.quick 1 [12] [(12, .bool (false))] (by kernel_rfl) ?_
 refine EL.done (by kernel_rfl) ?_
 refine EQ.code ?_
 refine EW.ret (by kernel_rfl) ?_
 refine EQ.ret ?_
 obtain rfl := Option.some.inj H
 exact EQ.leave (.bool (false)) (by kernel_rfl) ⟨_, rfl, rfl, (hS.re [] [] rfl (sub_self))⟩

def confidantlaw6_InstrReads.Pure : Prop := ∀ (l9 : List Int) (a12 : ByteArray) (a13 : Int) (a14 : Int) (a15 : Int) (a16 : Int), l9.length * 1 ≤ 140737488351232 → (∀ x ∈ l9, (Lit.int .u8 x).wf = true) → a12.size ≤ 140737488351232 → (Lit.int .u8 a13).wf = true → (Lit.int .u8 a14).wf = true → (Lit.int .u8 a15).wf = true → (Lit.int .u8 a16).wf = true → ∃ K, confidantlaw6_InstrReads.f K l9 a12 a13 a14 a15 a16 = some true

end Go.Proofs.YtocdpimpkifdmaaDoor.G
