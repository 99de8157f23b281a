import Derived.Test.YtipaaapbapijhaaDoorProg
import Derived.Test.YtipaaapbapijhaaDoorFwShort
import Derived.Test.YtipaaapbapijhaaDoorFwOpen
import Derived.Test.YtipaaapbapijhaaDoorDoor
import Derived.Test.YtipaaapbapijhaaDoorG0
namespace Go.Proofs.YtipaaapbapijhaaDoor.G
open Go Go.Fw Go.RowKit Go.Proofs
set_option linter.unusedVariables false
set_option linter.unusedSimpArgs false

/-! ### confidant/confidantlaw5.OpsNames: function 5 -/
def confidantlaw5_OpsNames.f (K : Nat) (a4 : Int) (a5 : Int) (a6 : Int) : Option Bool := b1 (confidantlaw5_known.f K) fun (b8 : Bool) => (if b8 = true then (b1 (ops_Name.f K (IntKind.i64.wrap ((Int.tmod (IntKind.i64.wrap a4) 26) + 1))) fun (b0 : ByteArray) => (if (b0.size : Int) = 0 then (some false) else (if b0.size ≤ 16777216 then (lt (bytesL b0) fun b3 => (if (b3.length : Int) = 0 then none else (if 0 ≤ (Int.tmod (IntKind.i64.wrap a5) (b3.length : Int)) then (if (Int.tmod (IntKind.i64.wrap a5) (b3.length : Int)) < (b3.length : Int) then (lt (b3.set (Int.tmod (IntKind.i64.wrap a5) (b3.length : Int)).toNat a6) fun a0 => (b2 (ops_Find.f K (bStr a0)) fun (a3 : Int) (a7 : Bool) => (b2 (confidantref5_Find.f K (bStr a0)) fun (b4 : Int) (a9 : Bool) => (if b0.size + (⟨#[32]⟩ : ByteArray).size ≤ 9223372036854775807 then (b2 (ops_Find.f K (b0 ++ (⟨#[32]⟩ : ByteArray))) fun (d7 : Int) (a8 : Bool) => (if a3 = b4 then (if (a7 == a9) = true then (if a8 = true then (some false) else (if a7 = true then (b1 (ops_Name.f K a3) fun (c0 : ByteArray) => (some (c0.toList == (bStr a0).toList))) else (some true))) else (some false)) else (some false))) else none)))) else none) else none))) else none))) else (some false))
set_option maxRecDepth 100000 in
theorem confidantlaw5_OpsNames.calls {K : Nat} {a4 : Int} {a5 : Int} {a6 : Int} {c6 : Bool} {B w : World} {os : List Ass} {rs : List Ro} (H : confidantlaw5_OpsNames.f K a4 a5 a6 = some c6) (hS : St B w (os) (rs)) (gB : Glob B) :
  Calls Tryd.prog 5 [ig a4, ig a5, ig a6].toArray w (fun en w' => ∃ v, en = .returned v ∧ v = .bool (c6) ∧ St B w' (os) (rs)) := by
 unfold confidantlaw5_OpsNames.f at H
 refine calls_of_EW (args := [ig a4, ig a5, ig a6]) (c := Cd5) 76 Tryd.func5 (by kernel_rfl) (by kernel_rfl) (by kernel_rfl) ?_
 refine EW.sq (by kernel_rfl) ?_
 refine EW.rg (by kernel_rfl) ?_
 refine EL.quick 1 [0, 1, 2] [(0, ig a4), (1, ig a5), (2, ig a6)] (by kernel_rfl) ?_
 refine EL.done (by kernel_rfl) ?_
 refine EQ.code ?_
 refine EW.sq (by kernel_rfl) ?_
 refine EW.sq (by kernel_rfl) ?_
 refine EW.rg (by kernel_rfl) ?_
 obtain ⟨b8, d0, H⟩ := b1_out H
 have hq := confidantlaw5_known.calls d0 hS gB
 refine EL.of (EO.callD 6 [] _ 15 (by kernel_rfl) (by kernel_rfl) (by kernel_rfl) hq ?_)
 rintro v w ⟨rfl, hS⟩
 refine EL.quick 1 [0, 1, 2, 16] [(0, ig a4), (1, ig a5), (2, ig a6), (16, .bool (!(b8)))] (by kernel_rfl) ?_
 refine EL.done (by kernel_rfl) ?_
 refine EQ.code ?_
 refine EW.cdQ (b := !(b8)) (b8 = true) (false) (by kernel_rfl) (by kernel_rfl) ⟨fun h => (by rw [h] <;> rfl), fun h => (by rw [Bool.eq_false_iff.2 h] <;> rfl)⟩ (fun c1 => ?_) (fun c1 => ?_)
 ·rw [if_pos c1] at H
  refine EW.skip (by kernel_rfl) ?_
  refine EQ.code ?_
  refine EW.sq (by kernel_rfl) ?_
  refine EW.rg (by kernel_rfl) ?_
  refine EL.quick 4 [1, 2, 20] [(1, ig a5), (2, ig a6), (20, ia (IntKind.i64.wrap ((Int.tmod (IntKind.i64.wrap a4) 26) + 1)))] (by kernel_rfl) ?_
  obtain ⟨b0, d1, H⟩ := b1_out H
  have hq := ops_Name.calls d1 hS gB
  refine EL.of (EO.callD 17 [ia (IntKind.i64.wrap ((Int.tmod (IntKind.i64.wrap a4) 26) + 1))] _ 21 (by kernel_rfl) (by kernel_rfl) (by kernel_rfl) hq ?_)
  rintro v w ⟨rfl, hS⟩
  refine EL.quick 1 [1, 2, 7] [(1, ig a5), (2, ig a6), (7, .string b0)] (by kernel_rfl) ?_
  refine EL.done (by kernel_rfl) ?_
  refine EQ.code ?_
  refine EW.sq (by kernel_rfl) ?_
  refine EW.sq (by kernel_rfl) ?_
  refine EW.rg (by kernel_rfl) ?_
  refine EL.quick 3 [1, 2, 7, 24] [(1, ig a5), (2, ig a6), (7, .string b0), (24, .bool (decide ((b0.size : Int) = 0)))] (by kernel_rfl) ?_
  refine EL.done (by kernel_rfl) ?_
  refine EQ.code ?_
  refine EW.cdP ((b0.size : Int) = 0) (by kernel_rfl) (by kernel_rfl) (fun c2 => ?_) (fun c2 => ?_)
  ·rw [if_pos c2] at H
   refine EW.sq (by kernel_rfl) ?_
   refine EW.rg (by kernel_rfl) ?_
   refine EL.quick 1 [6] [(6, .bool (false))] (by kernel_rfl) ?_
   refine EL.done (by kernel_rfl) ?_
   refine EQ.code ?_
   refine EW.ret (by kernel_rfl) ?_
   refine EQ.ret ?_
   obtain rfl := Option.some.inj H
   exact EQ.leave (.bool (false)) (by kernel_rfl) ⟨_, rfl, rfl, (hS.re [] [] rfl (sub_self))⟩
  rw [if_neg c2] at H
  refine EW.skip (by kernel_rfl) ?_
  refine EQ.code ?_
  refine EW.sq (by kernel_rfl) ?_
  refine EW.rg (by kernel_rfl) ?_
  refine EL.quick 1 [1, 2, 7, 25] [(1, ig a5), (2, ig a6), (7, .string b0), (25, .string b0)] (by kernel_rfl) ?_
  obtain ⟨c7, H⟩ := ite_in H
  obtain ⟨b3, d6, H⟩ := lt_out H
  refine EL.of (EO.bytesOf hS b0 9 31 5 26 (by kernel_rfl) (by kernel_rfl) (by kernel_rfl) (by kernel_rfl) (by kernel_rfl) (by kernel_rfl) c7 d6 ?_)
  intro a2 a1 w hS
  refine EL.quick 1 [1, 2, 7, 8] [(1, ig a5), (2, ig a6), (7, .string b0), (8, sv (some a2) a1 b3)] (by kernel_rfl) ?_
  refine EL.done (by kernel_rfl) ?_
  refine EQ.code ?_
  refine EW.sq (by kernel_rfl) ?_
  refine EW.rg (by kernel_rfl) ?_
  refine EL.quick 5 [2, 7, 8, 27, 29, 31] [(2, ig a6), (7, .string b0), (8, sv (some a2) a1 b3), (27, sv (some a2) a1 b3), (29, ia (IntKind.i64.wrap a5)), (31, ia (b3.length : Int))] (by kernel_rfl) ?_
  obtain ⟨c8, H⟩ := ite_out H
  refine EL.of (EO.Y (YO.div .rem .i64 (IntKind.i64.wrap a5) (b3.length : Int) (Int.tmod (IntKind.i64.wrap a5) (b3.length : Int)) 32 (by kernel_rfl) (by kernel_rfl) (by kernel_rfl) c8 (by first | exact .inl ⟨rfl, rfl⟩ | exact .inr ⟨rfl, rfl⟩)) ?_)
  refine EL.quick 1 [7, 8, 27, 32, 33] [(7, .string b0), (8, sv (some a2) a1 b3), (27, sv (some a2) a1 b3), (32, ia (Int.tmod (IntKind.i64.wrap a5) (b3.length : Int))), (33, ig a6)] (by kernel_rfl) ?_
  obtain ⟨c3, H⟩ := ite_in H
  obtain ⟨c4, H⟩ := ite_in H
  refine EL.of (EO.Y (YO.idx 31 1 a2 b3.length a1 .i64 (Int.tmod (IntKind.i64.wrap a5) (b3.length : Int)) 34 (by kernel_rfl) (by kernel_rfl) (by kernel_rfl) (by kernel_rfl) c3 c4) ?_)
  obtain ⟨a0, c5, H⟩ := lt_out H
  refine EL.of (EO.storeMrk hS 0 5 a2 a1 b3 rfl (Int.tmod (IntKind.i64.wrap a5) (b3.length : Int)) c3 c4 a6 a0 c5 5 (Ass.mrk 5 a2 a1 a0 :: os) (by kernel_rfl) (by kernel_rfl) (by kernel_rfl) (by kernel_rfl) rfl ?_)
  intro w hS
  refine EL.keep [7, 8] [(7, .string b0), (8, sv (some a2) a1 b3)] (by kernel_rfl) ?_
  refine EL.as' [(7, .string b0), (8, sv (some a2) a1 a0)] (by simp only [sv, c5, List.length_set]) ?_
  refine EL.done (by kernel_rfl) ?_
  refine EQ.code ?_
  refine EW.sq (by kernel_rfl) ?_
  refine EW.rg (by kernel_rfl) ?_
  refine EL.quick 1 [7, 8, 36] [(7, .string b0), (8, sv (some a2) a1 a0), (36, sv (some a2) a1 a0)] (by kernel_rfl) ?_
  have hS := St.frMrk hS 0 rfl
  refine EL.of (EO.Y (YO.bstr hS (some a2) a1 a0 (Rd.ro 0 rfl) 31 9 5 37 (by kernel_rfl) (by kernel_rfl) (by kernel_rfl) (by kernel_rfl) (by kernel_rfl) (by kernel_rfl)) ?_)
  obtain ⟨a3, a7, d2, H⟩ := b2_out H
  have hq := ops_Find.calls d2 hS gB
  refine EL.of (EO.callD 19 [.string (bStr a0)] _ 38 (by kernel_rfl) (by kernel_rfl) (by kernel_rfl) hq ?_)
  rintro v w ⟨rfl, hS⟩
  refine EL.quick 5 [7, 8, 9, 10] [(7, .string b0), (8, sv (some a2) a1 a0), (9, ia a3), (10, .bool (a7))] (by kernel_rfl) ?_
  refine EL.done (by kernel_rfl) ?_
  refine EQ.code ?_
  refine EW.sq (by kernel_rfl) ?_
  refine EW.rg (by kernel_rfl) ?_
  refine EL.quick 1 [7, 8, 9, 10, 42] [(7, .string b0), (8, sv (some a2) a1 a0), (9, ia a3), (10, .bool (a7)), (42, sv (some a2) a1 a0)] (by kernel_rfl) ?_
  refine EL.of (EO.Y (YO.bstr hS (some a2) a1 a0 (Rd.ro 0 rfl) 31 9 5 43 (by kernel_rfl) (by kernel_rfl) (by kernel_rfl) (by kernel_rfl) (by kernel_rfl) (by kernel_rfl)) ?_)
  obtain ⟨b4, a9, d3, H⟩ := b2_out H
  have hq := confidantref5_Find.calls d3 hS
  refine EL.of (EO.callD 20 [.string (bStr a0)] _ 44 (by kernel_rfl) (by kernel_rfl) (by kernel_rfl) hq ?_)
  rintro v w ⟨rfl, hS⟩
  refine EL.quick 5 [7, 8, 9, 10, 11, 12] [(7, .string b0), (8, sv (some a2) a1 a0), (9, ia a3), (10, .bool (a7)), (11, ia b4), (12, .bool (a9))] (by kernel_rfl) ?_
  refine EL.done (by kernel_rfl) ?_
  refine EQ.code ?_
  refine EW.sq (by kernel_rfl) ?_
  refine EW.rg (by kernel_rfl) ?_
  refine EL.quick 1 [8, 9, 10, 11, 12, 48] [(8, sv (some a2) a1 a0), (9, ia a3), (10, .bool (a7)), (11, ia b4), (12, .bool (a9)), (48, .string b0)] (by kernel_rfl) ?_
  obtain ⟨c9, H⟩ := ite_in H
  refine EL.of (EO.Y (YO.strCat b0 (⟨#[32]⟩ : ByteArray) 49 (by kernel_rfl) (by kernel_rfl) (by kernel_rfl) c9) ?_)
  obtain ⟨d7, a8, d4, H⟩ := b2_out H
  have hq := ops_Find.calls d4 hS gB
  refine EL.of (EO.callD 19 [.string (b0 ++ (⟨#[32]⟩ : ByteArray))] _ 50 (by kernel_rfl) (by kernel_rfl) (by kernel_rfl) hq ?_)
  rintro v w ⟨rfl, hS⟩
  refine EL.quick 5 [8, 9, 10, 11, 12, 14] [(8, sv (some a2) a1 a0), (9, ia a3), (10, .bool (a7)), (11, ia b4), (12, .bool (a9)), (14, .bool (a8))] (by kernel_rfl) ?_
  refine EL.done (by kernel_rfl) ?_
  refine EQ.code ?_
  refine EW.sq (by kernel_rfl) ?_
  by_cases b5 : a3 = b4
  ·rw [if_pos b5] at H
   by_cases b6 : (a7 == a9) = true
   ·rw [if_pos b6] at H
    by_cases b7 : a8 = true
    ·rw [if_pos b7] at H
     have hS := hS.drew
     refine EW.dr (B := B) [] [Ro.sl (Kd.int .u8) (some a2) a1 a0] (by kernel_rfl) (by kernel_rfl) ?_
     have hN : Region.noSelect Cd5.r.r.r.r.r.r.r.r.r.l.ops = true := (by kernel_rfl)
     have hF : freeAll Cd5.r.r.r.r.r.r.r.r.r.l.ops = true := (by kernel_rfl)
     have hC : Core B [] [Ro.sl (Kd.int .u8) (some a2) a1 a0] _ := ⟨_, _, hS⟩
     refine ED.quick hN hF hC [0, 1, 2, 3] [8, 9, 10, 12, 14, 56] 20 [(8, sv (some a2) a1 a0), (9, ia a3), (10, .bool (a7)), (12, .bool (a9)), (14, .bool (a8)), (56, .bool (decide (a3 = b4)))] (bm 24 15) (by kernel_rfl) (by kernel_rfl) ?_
     refine ED.keep [8, 9, 10, 12, 14, 56] [(8, sv (some a2) a1 a0), (9, ia a3), (10, .bool (a7)), (12, .bool (a9)), (14, .bool (a8)), (56, .bool (decide (a3 = b4)))] (by kernel_rfl) ?_
     refine ED.as' [(8, sv (some a2) a1 a0), (9, ia a3), (10, .bool (a7)), (12, .bool (a9)), (14, .bool (a8)), (56, .bool (true))] (by simp only [sv, dec_t b5, Bool.not_true, Bool.not_false]) ?_
     refine ED.quick hN hF hC [4, 5, 6, 7, 8] [8, 9, 10, 14, 61] 15 [(8, sv (some a2) a1 a0), (9, ia a3), (10, .bool (a7)), (14, .bool (a8)), (61, .bool ((a7 == a9)))] (bm 24 511) (by kernel_rfl) (by kernel_rfl) ?_
     refine ED.keep [8, 9, 10, 14, 61] [(8, sv (some a2) a1 a0), (9, ia a3), (10, .bool (a7)), (14, .bool (a8)), (61, .bool ((a7 == a9)))] (by kernel_rfl) ?_
     refine ED.as' [(8, sv (some a2) a1 a0), (9, ia a3), (10, .bool (a7)), (14, .bool (a8)), (61, .bool (true))] (by simp only [sv, b6, Bool.not_true, Bool.not_false]) ?_
     refine ED.quick hN hF hC [9, 10, 11, 12] [8, 9, 10, 65] 11 [(8, sv (some a2) a1 a0), (9, ia a3), (10, .bool (a7)), (65, .bool (!(a8)))] (bm 24 8191) (by kernel_rfl) (by kernel_rfl) ?_
     refine ED.keep [8, 9, 10, 65] [(8, sv (some a2) a1 a0), (9, ia a3), (10, .bool (a7)), (65, .bool (!(a8)))] (by kernel_rfl) ?_
     refine ED.as' [(8, sv (some a2) a1 a0), (9, ia a3), (10, .bool (a7)), (65, .bool (false))] (by simp only [sv, b7, Bool.not_true, Bool.not_false]) ?_
     refine ED.quick hN hF hC [13, 14, 15, 16, 17, 18, 19, 20, 21, 22, 23] [6] 0 [(6, .bool (false))] (bm 24 16777215) (by kernel_rfl) (by kernel_rfl) ?_
     refine ED.done (by kernel_rfl) ?_
     refine EQ.code ?_
     refine EW.ret (by kernel_rfl) ?_
     obtain rfl := Option.some.inj H
     exact EQ.leave (.bool (false)) (by kernel_rfl) ⟨_, rfl, rfl, (hS.re [] [] rfl (sub_tail (sub_self)))⟩
    rw [if_neg b7] at H
    by_cases b9 : a7 = true
    ·rw [if_pos b9] at H
     obtain ⟨c0, d5, H⟩ := b1_out H
     have hS := hS.drew
     refine EW.dr (B := B) [] [Ro.sl (Kd.int .u8) (some a2) a1 a0] (by kernel_rfl) (by kernel_rfl) ?_
     have hN : Region.noSelect Cd5.r.r.r.r.r.r.r.r.r.l.ops = true := (by kernel_rfl)
     have hF : freeAll Cd5.r.r.r.r.r.r.r.r.r.l.ops = true := (by kernel_rfl)
     have hC : Core B [] [Ro.sl (Kd.int .u8) (some a2) a1 a0] _ := ⟨_, _, hS⟩
     refine ED.quick hN hF hC [0, 1, 2, 3] [8, 9, 10, 12, 14, 56] 20 [(8, sv (some a2) a1 a0), (9, ia a3), (10, .bool (a7)), (12, .bool (a9)), (14, .bool (a8)), (56, .bool (decide (a3 = b4)))] (bm 24 15) (by kernel_rfl) (by kernel_rfl) ?_
     refine ED.keep [8, 9, 10, 12, 14, 56] [(8, sv (some a2) a1 a0), (9, ia a3), (10, .bool (a7)), (12, .bool (a9)), (14, .bool (a8)), (56, .bool (decide (a3 = b4)))] (by kernel_rfl) ?_
     refine ED.as' [(8, sv (some a2) a1 a0), (9, ia a3), (10, .bool (a7)), (12, .bool (a9)), (14, .bool (a8)), (56, .bool (true))] (by simp only [sv, dec_t b5, Bool.not_true, Bool.not_false]) ?_
     refine ED.quick hN hF hC [4, 5, 6, 7, 8] [8, 9, 10, 14, 61] 15 [(8, sv (some a2) a1 a0), (9, ia a3), (10, .bool (a7)), (14, .bool (a8)), (61, .bool ((a7 == a9)))] (bm 24 511) (by kernel_rfl) (by kernel_rfl) ?_
     refine ED.keep [8, 9, 10, 14, 61] [(8, sv (some a2) a1 a0), (9, ia a3), (10, .bool (a7)), (14, .bool (a8)), (61, .bool ((a7 == a9)))] (by kernel_rfl) ?_
     refine ED.as' [(8, sv (some a2) a1 a0), (9, ia a3), (10, .bool (a7)), (14, .bool (a8)), (61, .bool (true))] (by simp only [sv, b6, Bool.not_true, Bool.not_false]) ?_
     refine ED.quick hN hF hC [9, 10, 11, 12] [8, 9, 10, 65] 11 [(8, sv (some a2) a1 a0), (9, ia a3), (10, .bool (a7)), (65, .bool (!(a8)))] (bm 24 8191) (by kernel_rfl) (by kernel_rfl) ?_
     refine ED.keep [8, 9, 10, 65] [(8, sv (some a2) a1 a0), (9, ia a3), (10, .bool (a7)), (65, .bool (!(a8)))] (by kernel_rfl) ?_
     refine ED.as' [(8, sv (some a2) a1 a0), (9, ia a3), (10, .bool (a7)), (65, .bool (true))] (by simp only [sv, (Bool.eq_false_iff.2 b7), Bool.not_true, Bool.not_false]) ?_
     refine ED.quick hN hF hC [13, 14, 15] [8, 9, 65, 68] 8 [(8, sv (some a2) a1 a0), (9, ia a3), (65, .bool (true)), (68, .bool (!(a7)))] (bm 24 65535) (by kernel_rfl) (by kernel_rfl) ?_
     refine ED.keep [8, 9, 65, 68] [(8, sv (some a2) a1 a0), (9, ia a3), (65, .bool (true)), (68, .bool (!(a7)))] (by kernel_rfl) ?_
     refine ED.as' [(8, sv (some a2) a1 a0), (9, ia a3), (65, .bool (true)), (68, .bool (false))] (by simp only [sv, b9, Bool.not_true, Bool.not_false]) ?_
     refine ED.quick hN hF hC [16, 18] [65, 68, 69, 71] 6 [(65, .bool (true)), (68, .bool (false)), (69, ia a3), (71, sv (some a2) a1 a0)] (bm 24 393215) (by kernel_rfl) (by kernel_rfl) ?_
     refine ED.Y hN hF hC 19 5 (bm 24 917503) (by kernel_rfl) (by kernel_rfl) rfl (fun _ _ _ hS => YO.bstr hS (some a2) a1 a0 (Rd.ro 0 rfl) 31 9 5 72 (by kernel_rfl) (by kernel_rfl) (by kernel_rfl) (by kernel_rfl) (by kernel_rfl) (by kernel_rfl)) ?_
     have hq := ops_Name.calls d5 hS gB
     refine ED.one 17 4 (bm 24 1048575) (by kernel_rfl) (by kernel_rfl) (by kernel_rfl) (EO.callD 17 [ia a3] _ 70 (by kernel_rfl) (by kernel_rfl) (by kernel_rfl) hq ?_)
     rintro v w ⟨rfl, hS⟩
     have hC := hC.again ⟨_, _, hS⟩
     refine ⟨hC, ?_⟩
     refine ED.quick hN hF hC [20, 21, 22, 23] [6] 0 [(6, .bool ((c0.toList == (bStr a0).toList)))] (bm 24 16777215) (by kernel_rfl) (by kernel_rfl) ?_
     refine ED.done (by kernel_rfl) ?_
     refine EQ.code ?_
     refine EW.ret (by kernel_rfl) ?_
     obtain rfl := Option.some.inj H
     exact EQ.leave (.bool ((c0.toList == (bStr a0).toList))) (by kernel_rfl) ⟨_, rfl, rfl, (hS.re [] [] rfl (sub_tail (sub_self)))⟩
    rw [if_neg b9] at H
    have hS := hS.drew
    refine EW.dr (B := B) [] [Ro.sl (Kd.int .u8) (some a2) a1 a0] (by kernel_rfl) (by kernel_rfl) ?_
    have hN : Region.noSelect Cd5.r.r.r.r.r.r.r.r.r.l.ops = true := (by kernel_rfl)
    have hF : freeAll Cd5.r.r.r.r.r.r.r.r.r.l.ops = true := (by kernel_rfl)
    have hC : Core B [] [Ro.sl (Kd.int .u8) (some a2) a1 a0] _ := ⟨_, _, hS⟩
    refine ED.quick hN hF hC [0, 1, 2, 3] [8, 9, 10, 12, 14, 56] 20 [(8, sv (some a2) a1 a0), (9, ia a3), (10, .bool (a7)), (12, .bool (a9)), (14, .bool (a8)), (56, .bool (decide (a3 = b4)))] (bm 24 15) (by kernel_rfl) (by kernel_rfl) ?_
    refine ED.keep [8, 9, 10, 12, 14, 56] [(8, sv (some a2) a1 a0), (9, ia a3), (10, .bool (a7)), (12, .bool (a9)), (14, .bool (a8)), (56, .bool (decide (a3 = b4)))] (by kernel_rfl) ?_
    refine ED.as' [(8, sv (some a2) a1 a0), (9, ia a3), (10, .bool (a7)), (12, .bool (a9)), (14, .bool (a8)), (56, .bool (true))] (by simp only [sv, dec_t b5, Bool.not_true, Bool.not_false]) ?_
    refine ED.quick hN hF hC [4, 5, 6, 7, 8] [8, 9, 10, 14, 61] 15 [(8, sv (some a2) a1 a0), (9, ia a3), (10, .bool (a7)), (14, .bool (a8)), (61, .bool ((a7 == a9)))] (bm 24 511) (by kernel_rfl) (by kernel_rfl) ?_
    refine ED.keep [8, 9, 10, 14, 61] [(8, sv (some a2) a1 a0), (9, ia a3), (10, .bool (a7)), (14, .bool (a8)), (61, .bool ((a7 == a9)))] (by kernel_rfl) ?_
    refine ED.as' [(8, sv (some a2) a1 a0), (9, ia a3), (10, .bool (a7)), (14, .bool (a8)), (61, .bool (true))] (by simp only [sv, b6, Bool.not_true, Bool.not_false]) ?_
    refine ED.quick hN hF hC [9, 10, 11, 12] [8, 9, 10, 65] 11 [(8, sv (some a2) a1 a0), (9, ia a3), (10, .bool (a7)), (65, .bool (!(a8)))] (bm 24 8191) (by kernel_rfl) (by kernel_rfl) ?_
    refine ED.keep [8, 9, 10, 65] [(8, sv (some a2) a1 a0), (9, ia a3), (10, .bool (a7)), (65, .bool (!(a8)))] (by kernel_rfl) ?_
    refine ED.as' [(8, sv (some a2) a1 a0), (9, ia a3), (10, .bool (a7)), (65, .bool (true))] (by simp only [sv, (Bool.eq_false_iff.2 b7), Bool.not_true, Bool.not_false]) ?_
    refine ED.quick hN hF hC [13, 14, 15] [8, 9, 65, 68] 8 [(8, sv (some a2) a1 a0), (9, ia a3), (65, .bool (true)), (68, .bool (!(a7)))] (bm 24 65535) (by kernel_rfl) (by kernel_rfl) ?_
    refine ED.keep [8, 9, 65, 68] [(8, sv (some a2) a1 a0), (9, ia a3), (65, .bool (true)), (68, .bool (!(a7)))] (by kernel_rfl) ?_
    refine ED.as' [(8, sv (some a2) a1 a0), (9, ia a3), (65, .bool (true)), (68, .bool (true))] (by simp only [sv, (Bool.eq_false_iff.2 b9), Bool.not_true, Bool.not_false]) ?_
    refine ED.quick hN hF hC [16, 17, 18, 19, 20, 21, 22, 23] [6] 0 [(6, .bool (true))] (bm 24 16777215) (by kernel_rfl) (by kernel_rfl) ?_
    refine ED.done (by kernel_rfl) ?_
    refine EQ.code ?_
    refine EW.ret (by kernel_rfl) ?_
    obtain rfl := Option.some.inj H
    exact EQ.leave (.bool (true)) (by kernel_rfl) ⟨_, rfl, rfl, (hS.re [] [] rfl (sub_tail (sub_self)))⟩
   rw [if_neg b6] at H
   have hS := hS.drew
   refine EW.dr (B := B) [] [Ro.sl (Kd.int .u8) (some a2) a1 a0] (by kernel_rfl) (by kernel_rfl) ?_
   have hN : Region.noSelect Cd5.r.r.r.r.r.r.r.r.r.l.ops = true := (by kernel_rfl)
   have hF : freeAll Cd5.r.r.r.r.r.r.r.r.r.l.ops = true := (by kernel_rfl)
   have hC : Core B [] [Ro.sl (Kd.int .u8) (some a2) a1 a0] _ := ⟨_, _, hS⟩
   refine ED.quick hN hF hC [0, 1, 2, 3] [8, 9, 10, 12, 14, 56] 20 [(8, sv (some a2) a1 a0), (9, ia a3), (10, .bool (a7)), (12, .bool (a9)), (14, .bool (a8)), (56, .bool (decide (a3 = b4)))] (bm 24 15) (by kernel_rfl) (by kernel_rfl) ?_
   refine ED.keep [8, 9, 10, 12, 14, 56] [(8, sv (some a2) a1 a0), (9, ia a3), (10, .bool (a7)), (12, .bool (a9)), (14, .bool (a8)), (56, .bool (decide (a3 = b4)))] (by kernel_rfl) ?_
   refine ED.as' [(8, sv (some a2) a1 a0), (9, ia a3), (10, .bool (a7)), (12, .bool (a9)), (14, .bool (a8)), (56, .bool (true))] (by simp only [sv, dec_t b5, Bool.not_true, Bool.not_false]) ?_
   refine ED.quick hN hF hC [4, 5, 6, 7, 8] [8, 9, 10, 14, 61] 15 [(8, sv (some a2) a1 a0), (9, ia a3), (10, .bool (a7)), (14, .bool (a8)), (61, .bool ((a7 == a9)))] (bm 24 511) (by kernel_rfl) (by kernel_rfl) ?_
   refine ED.keep [8, 9, 10, 14, 61] [(8, sv (some a2) a1 a0), (9, ia a3), (10, .bool (a7)), (14, .bool (a8)), (61, .bool ((a7 == a9)))] (by kernel_rfl) ?_
   refine ED.as' [(8, sv (some a2) a1 a0), (9, ia a3), (10, .bool (a7)), (14, .bool (a8)), (61, .bool (false))] (by simp only [sv, (Bool.eq_false_iff.2 b6), Bool.not_true, Bool.not_false]) ?_
   refine ED.quick hN hF hC [9, 10, 11, 12, 13, 14, 15, 16, 17, 18, 19, 20, 21, 22, 23] [6] 0 [(6, .bool (false))] (bm 24 16777215) (by kernel_rfl) (by kernel_rfl) ?_
   refine ED.done (by kernel_rfl) ?_
   refine EQ.code ?_
   refine EW.ret (by kernel_rfl) ?_
   obtain rfl := Option.some.inj H
   exact EQ.leave (.bool (false)) (by kernel_rfl) ⟨_, rfl, rfl, (hS.re [] [] rfl (sub_tail (sub_self)))⟩
  rw [if_neg b5] at H
  have hS := hS.drew
  refine EW.dr (B := B) [] [Ro.sl (Kd.int .u8) (some a2) a1 a0] (by kernel_rfl) (by kernel_rfl) ?_
  have hN : Region.noSelect Cd5.r.r.r.r.r.r.r.r.r.l.ops = true := (by kernel_rfl)
  have hF : freeAll Cd5.r.r.r.r.r.r.r.r.r.l.ops = true := (by kernel_rfl)
  have hC : Core B [] [Ro.sl (Kd.int .u8) (some a2) a1 a0] _ := ⟨_, _, hS⟩
  refine ED.quick hN hF hC [0, 1, 2, 3] [8, 9, 10, 12, 14, 56] 20 [(8, sv (some a2) a1 a0), (9, ia a3), (10, .bool (a7)), (12, .bool (a9)), (14, .bool (a8)), (56, .bool (decide (a3 = b4)))] (bm 24 15) (by kernel_rfl) (by kernel_rfl) ?_
  refine ED.keep [8, 9, 10, 12, 14, 56] [(8, sv (some a2) a1 a0), (9, ia a3), (10, .bool (a7)), (12, .bool (a9)), (14, .bool (a8)), (56, .bool (decide (a3 = b4)))] (by kernel_rfl) ?_
  refine ED.as' [(8, sv (some a2) a1 a0), (9, ia a3), (10, .bool (a7)), (12, .bool (a9)), (14, .bool (a8)), (56, .bool (false))] (by simp only [sv, dec_f b5, Bool.not_true, Bool.not_false]) ?_
  refine ED.quick hN hF hC [4, 5, 6, 7, 8, 9, 10, 11, 12, 13, 14, 15, 16, 17, 18, 19, 20, 21, 22, 23] [6] 0 [(6, .bool (false))] (bm 24 16777215) (by kernel_rfl) (by kernel_rfl) ?_
  refine ED.done (by kernel_rfl) ?_
  refine EQ.code ?_
  refine EW.ret (by kernel_rfl) ?_
  obtain rfl := Option.some.inj H
  exact EQ.leave (.bool (false)) (by kernel_rfl) ⟨_, rfl, rfl, (hS.re [] [] rfl (sub_tail (sub_self)))⟩
 rw [if_neg c1] at H
 refine EW.sq (by kernel_rfl) ?_
 refine EW.rg (by kernel_rfl) ?_
 refine EL.quick 1 [6] [(6, .bool (false))] (by kernel_rfl) ?_
 refine EL.done (by kernel_rfl) ?_
 refine EQ.code ?_
 refine EW.ret (by kernel_rfl) ?_
 refine EQ.ret ?_
 obtain rfl := Option.some.inj H
 exact EQ.leave (.bool (false)) (by kernel_rfl) ⟨_, rfl, rfl, (hS.re [] [] rfl (sub_self))⟩

def confidantlaw5_OpsNames.Pure : Prop := ∀ (a4 : Int) (a5 : Int) (a6 : Int), (Lit.int .u8 a4).wf = true → (Lit.int .u8 a5).wf = true → (Lit.int .u8 a6).wf = true → ∃ K, confidantlaw5_OpsNames.f K a4 a5 a6 = some true

end Go.Proofs.YtipaaapbapijhaaDoor.G
