import Derived.Test.YtocdpimpkifdmaaDoorProg
import Derived.Test.YtocdpimpkifdmaaDoorFwShort
import Derived.Test.YtocdpimpkifdmaaDoorFwOpen
import Derived.Test.YtocdpimpkifdmaaDoorDoor
import Derived.Test.YtocdpimpkifdmaaDoorG0
namespace Go.Proofs.YtocdpimpkifdmaaDoor.G
open Go Go.Fw Go.RowKit Go.Proofs
set_option linter.unusedVariables false
set_option linter.unusedSimpArgs false

/-! ### confidant/confidantlaw6.InstrNumbers: function 8 -/
def confidantlaw6_InstrNumbers.f (K : Nat) (a3 : Int) (a4 : Int) : Option Bool := b1 (confidantlaw6_known.f K) fun (c1 : Bool) => (if c1 = true then (lt ([1, 26, 10, 12, 20, 22] : List Int) fun a0 => (if 0 ≤ (Int.tmod a4 6) then (if (Int.tmod a4 6) < (a0.length : Int) then (lt (fun (b4 : Bool) => (b1 (instr_Right.f K (a0.getD (Int.tmod a4 6).toNat 0) a3) fun (c2 : Bool) => (if (c2 == b4) = true then (if b4 = true then (b1 (instr_Text.f K (a0.getD (Int.tmod a4 6).toNat 0) a3) fun (e1 : ByteArray) => (b3 (instr_Parse.f K e1) fun (a6 : Int) (a7 : Int) (b6 : Bool) => (b1 (instr_Put.f K (a0.getD (Int.tmod a4 6).toNat 0) a3) fun (c3 : List Int) => (b2 (pack_New.f K c3) fun (d2 : List Int) (e2 : Int) => (b5 (instr_Take.f K d2 e2) fun (e9 : List Int) (f0 : Int) (a8 : Int) (a9 : Int) (b0 : Bool) => (if b6 = true then (if b0 = true then (if ((a6 == (a0.getD (Int.tmod a4 6).toNat 0)) && ((a7 == a3) && true)) = true then (if ((a8 == (a0.getD (Int.tmod a4 6).toNat 0)) && ((a9 == a3) && true)) = true then (b1 (instr_Put.f K (a0.getD (Int.tmod a4 6).toNat 0) a3) fun (b8 : List Int) => (if (b8.length : Int) ≥ 2 then (b1 (instr_Put.f K (a0.getD (Int.tmod a4 6).toNat 0) a3) fun (d3 : List Int) => (some (decide ((d3.length : Int) ≤ 6)))) else (some false))) else (some false)) else (some false)) else (some false)) else (some false))))))) else (b1 (instr_Put.f K (a0.getD (Int.tmod a4 6).toNat 0) a3) fun (b9 : List Int) => (if (b9.length : Int) = 0 then (b1 (instr_Text.f K (a0.getD (Int.tmod a4 6).toNat 0) a3) fun (d4 : ByteArray) => (some (d4.toList == (⟨#[]⟩ : ByteArray).toList))) else (some false)))) else (some false)))) fun c0 => (if (a0.getD (Int.tmod a4 6).toNat 0) = 1 then (c0 true) else (if (a0.getD (Int.tmod a4 6).toNat 0) = 26 then (c0 true) else (c0 (decide (a3 ≥ 0)))))) else none) else none)) else (some false))
set_option maxRecDepth 100000 in
theorem confidantlaw6_InstrNumbers.calls {K : Nat} {a3 : Int} {a4 : Int} {e3 : Bool} {B w : World} {os : List Ass} {rs : List Ro} (H : confidantlaw6_InstrNumbers.f K a3 a4 = some e3) (hS : St B w (os) (rs)) (gB : Glob B) :
  Calls Tryd.prog 8 [ib a3, ig a4].toArray w (fun en w' => ∃ v, en = .returned v ∧ v = .bool (e3) ∧ St B w' (os) (rs)) := by
 unfold confidantlaw6_InstrNumbers.f at H
 refine calls_of_EW (args := [ib a3, ig a4]) (c := Cd8) 86 Tryd.func8 (by kernel_rfl) (by kernel_rfl) (by kernel_rfl) ?_
 refine EW.sq (by kernel_rfl) ?_
 refine EW.rg (by kernel_rfl) ?_
 refine EL.quick 1 [0, 1] [(0, ib a3), (1, ig a4)] (by kernel_rfl) ?_
 refine EL.done (by kernel_rfl) ?_
 refine EQ.code ?_
 refine EW.sq (by kernel_rfl) ?_
 refine EW.sq (by kernel_rfl) ?_
 refine EW.rg (by kernel_rfl) ?_
 obtain ⟨c1, f3, H⟩ := b1_out H
 have hq := confidantlaw6_known.calls f3 hS gB
 refine EL.of (EO.callD 29 [] _ 12 (by kernel_rfl) (by kernel_rfl) (by kernel_rfl) hq ?_)
 rintro v w ⟨rfl, hS⟩
 refine EL.quick 1 [0, 1, 13] [(0, ib a3), (1, ig a4), (13, .bool (!(c1)))] (by kernel_rfl) ?_
 refine EL.done (by kernel_rfl) ?_
 refine EQ.code ?_
 refine EW.cdQ (b := !(c1)) (c1 = true) (false) (by kernel_rfl) (by kernel_rfl) ⟨fun h => (by rw [h] <;> rfl), fun h => (by rw [Bool.eq_false_iff.2 h] <;> rfl)⟩ (fun d8 => ?_) (fun d8 => ?_)
 ·rw [if_pos d8] at H
  refine EW.skip (by kernel_rfl) ?_
  refine EQ.code ?_
  refine EW.sq (by kernel_rfl) ?_
  refine EW.rg (by kernel_rfl) ?_
  obtain ⟨a0, e8, H⟩ := lt_out H
  refine EL.of (EO.lit hS (Kd.int .i64) 3 24 6 #[(0, ia 1), (1, ia 26), (2, ia 10), (3, ia 12), (4, ia 20), (5, ia 22)] [ia 1, ia 26, ia 10, ia 12, ia 20, ia 22] a0 14 (by kernel_rfl) (by kernel_rfl) (by kernel_rfl) (fun _ => (by kernel_rfl)) (by rw [e8]; rfl) (by kernel_rfl) (fun w G hr => (by rw [e8]; exact ⟨[ia 1], [ia 26, ia 10, ia 12, ia 20, ia 22], rfl, rfl, ⟨[ia 26], [ia 10, ia 12, ia 20, ia 22], rfl, rfl, ⟨[ia 10], [ia 12, ia 20, ia 22], rfl, rfl, ⟨[ia 12], [ia 20, ia 22], rfl, rfl, ⟨[ia 20], [ia 22], rfl, rfl, ⟨[ia 22], [], rfl, rfl, rfl⟩⟩⟩⟩⟩⟩)) ?_)
  intro b7 w hS
  refine EL.quick 2 [0, 14, 16] [(0, ib a3), (14, sv (some ⟨b7, 0, none⟩) 6 a0), (16, ig (Int.tmod a4 6))] (by kernel_rfl) ?_
  obtain ⟨e6, H⟩ := ite_in H
  obtain ⟨e7, H⟩ := ite_in H
  refine EL.of (EO.Y (YO.idx 24 1 ⟨b7, 0, none⟩ a0.length 6 .u8 (Int.tmod a4 6) 17 (by kernel_rfl) (by kernel_rfl) (by kernel_rfl) (by kernel_rfl) e6 e7) ?_)
  refine EL.of (EO.Y (YO.loadEl hS (Kd.int .i64) ⟨b7, 0, none⟩ 6 a0 (Rd.own 0 3 rfl) 0 (encI .i64) encI_of (Int.tmod a4 6) e6 e7 3 1 0 1 rfl (ia (a0.getD (Int.tmod a4 6).toNat 0)) 18 (by kernel_rfl) (by kernel_rfl) (by kernel_rfl) (by kernel_rfl)) ?_)
  refine EL.quick 1 [0, 5] [(0, ib a3), (5, ia (a0.getD (Int.tmod a4 6).toNat 0))] (by kernel_rfl) ?_
  refine EL.done (by kernel_rfl) ?_
  refine EQ.code ?_
  refine EW.sq (by kernel_rfl) ?_
  refine EW.rg (by kernel_rfl) ?_
  refine EL.quick 3 [0, 5, 21] [(0, ib a3), (5, ia (a0.getD (Int.tmod a4 6).toNat 0)), (21, ag [ia (a0.getD (Int.tmod a4 6).toNat 0), ib a3])] (by kernel_rfl) ?_
  refine EL.of (EO.alloc hS 54 (ag [ia 0, ib 0]) [ia 0, ib 0] 6 (by kernel_rfl) (by kernel_rfl) (by kernel_rfl) (by kernel_rfl) (by first | rfl | kernel_rfl) ?_)
  intro a1 w hS
  refine EL.of (EO.storeBox (os' := Ass.box 54 a1 [ia (a0.getD (Int.tmod a4 6).toNat 0), ib a3] :: Ass.own 3 (Kd.int .i64) (some ⟨b7, 0, none⟩) 6 a0 :: os) hS 0 rfl 54 0 (ag [ia (a0.getD (Int.tmod a4 6).toNat 0), ib a3]) [ia (a0.getD (Int.tmod a4 6).toNat 0), ib a3] (by kernel_rfl) (by kernel_rfl) (by kernel_rfl) (by kernel_rfl) (by kernel_rfl) (by kernel_rfl) rfl rfl ?_)
  intro w hS
  refine EL.done (by kernel_rfl) ?_
  refine EQ.code ?_
  obtain ⟨c0, g4, H⟩ := lt_out H
  refine EW.ct (fun a w => ∃ b4 : Bool, Sat 86 [(6, pt a1 0), (7, .bool (b4))] a ∧ St B w (Ass.box 54 a1 [ia (a0.getD (Int.tmod a4 6).toNat 0), ib a3] :: Ass.own 3 (Kd.int .i64) (some ⟨b7, 0, none⟩) 6 a0 :: os) (rs) ∧ c0 b4 = some e3) (by kernel_rfl) ?_ (fun a w hI => ?_)
  ·refine EW.rg (by kernel_rfl) ?_
   refine EL.quick 3 [0, 5, 6, 24] [(0, ib a3), (5, ia (a0.getD (Int.tmod a4 6).toNat 0)), (6, pt a1 0), (24, .bool (decide ((a0.getD (Int.tmod a4 6).toNat 0) = 1)))] (by kernel_rfl) ?_
   by_cases c4 : (a0.getD (Int.tmod a4 6).toNat 0) = 1
   ·rw [if_pos c4] at H
    refine EL.keep [0, 5, 6, 24] [(0, ib a3), (5, ia (a0.getD (Int.tmod a4 6).toNat 0)), (6, pt a1 0), (24, .bool (decide ((a0.getD (Int.tmod a4 6).toNat 0) = 1)))] (by kernel_rfl) ?_
    refine EL.as' [(0, ib a3), (5, ia (a0.getD (Int.tmod a4 6).toNat 0)), (6, pt a1 0), (24, .bool (true))] (by simp only [sv, dec_t c4, Bool.not_true, Bool.not_false]) ?_
    refine EL.quick 8 [6, 7] [(6, pt a1 0), (7, .bool (true))] (by kernel_rfl) ?_
    refine EL.done (by kernel_rfl) ?_
    refine EQ.to ?_
    refine EQ.keep [6, 7] [(6, pt a1 0), (7, .bool (true))] (by kernel_rfl) ?_
    exact fun a ha => ⟨true, ha, (hS.re [1, 1] [] rfl (sub_self)), H⟩
   rw [if_neg c4] at H
   refine EL.keep [0, 5, 6, 24] [(0, ib a3), (5, ia (a0.getD (Int.tmod a4 6).toNat 0)), (6, pt a1 0), (24, .bool (decide ((a0.getD (Int.tmod a4 6).toNat 0) = 1)))] (by kernel_rfl) ?_
   refine EL.as' [(0, ib a3), (5, ia (a0.getD (Int.tmod a4 6).toNat 0)), (6, pt a1 0), (24, .bool (false))] (by simp only [sv, dec_f c4, Bool.not_true, Bool.not_false]) ?_
   refine EL.quick 4 [0, 6, 28] [(0, ib a3), (6, pt a1 0), (28, .bool (decide ((a0.getD (Int.tmod a4 6).toNat 0) = 26)))] (by kernel_rfl) ?_
   by_cases c5 : (a0.getD (Int.tmod a4 6).toNat 0) = 26
   ·rw [if_pos c5] at H
    refine EL.keep [0, 6, 28] [(0, ib a3), (6, pt a1 0), (28, .bool (decide ((a0.getD (Int.tmod a4 6).toNat 0) = 26)))] (by kernel_rfl) ?_
    refine EL.as' [(0, ib a3), (6, pt a1 0), (28, .bool (true))] (by simp only [sv, dec_t c5, Bool.not_true, Bool.not_false]) ?_
    refine EL.quick 4 [6, 7] [(6, pt a1 0), (7, .bool (true))] (by kernel_rfl) ?_
    refine EL.done (by kernel_rfl) ?_
    refine EQ.to ?_
    refine EQ.keep [6, 7] [(6, pt a1 0), (7, .bool (true))] (by kernel_rfl) ?_
    exact fun a ha => ⟨true, ha, (hS.re [1, 1] [] rfl (sub_self)), H⟩
   rw [if_neg c5] at H
   refine EL.keep [0, 6, 28] [(0, ib a3), (6, pt a1 0), (28, .bool (decide ((a0.getD (Int.tmod a4 6).toNat 0) = 26)))] (by kernel_rfl) ?_
   refine EL.as' [(0, ib a3), (6, pt a1 0), (28, .bool (false))] (by simp only [sv, dec_f c5, Bool.not_true, Bool.not_false]) ?_
   refine EL.quick 4 [6, 7] [(6, pt a1 0), (7, .bool (decide (a3 ≥ 0)))] (by kernel_rfl) ?_
   refine EL.done (by kernel_rfl) ?_
   refine EQ.to ?_
   refine EQ.keep [6, 7] [(6, pt a1 0), (7, .bool (decide (a3 ≥ 0)))] (by kernel_rfl) ?_
   exact fun a ha => ⟨decide (a3 ≥ 0), ha, (hS.re [1, 1] [] rfl (sub_self)), H⟩
  obtain ⟨b4, ha, hS, H⟩ := hI
  rw [g4] at H
  (try dsimp only at H)
  refine EW.at ?_ a ha
  clear ha a
  refine EW.sq (by kernel_rfl) ?_
  refine EW.sq (by kernel_rfl) ?_
  refine EW.rg (by kernel_rfl) ?_
  refine EL.of (EO.Y (YO.loadBox hS 0 rfl 54 0 2 (ag [ia (a0.getD (Int.tmod a4 6).toNat 0), ib a3]) 32 (by kernel_rfl) (by kernel_rfl) (by kernel_rfl) (by kernel_rfl)) ?_)
  obtain ⟨c2, f4, H⟩ := b1_out H
  have hq := instr_Right.calls f4 hS
  refine EL.of (EO.callD 30 [ag [ia (a0.getD (Int.tmod a4 6).toNat 0), ib a3]] _ 33 (by kernel_rfl) (by kernel_rfl) (by kernel_rfl) hq ?_)
  rintro v w ⟨rfl, hS⟩
  refine EL.quick 2 [6, 7, 35] [(6, pt a1 0), (7, .bool (b4)), (35, .bool (!((c2 == b4))))] (by kernel_rfl) ?_
  refine EL.done (by kernel_rfl) ?_
  refine EQ.code ?_
  refine EW.cdQ (b := !((c2 == b4))) ((c2 == b4) = true) (false) (by kernel_rfl) (by kernel_rfl) ⟨fun h => (by rw [h] <;> rfl), fun h => (by rw [Bool.eq_false_iff.2 h] <;> rfl)⟩ (fun d9 => ?_) (fun d9 => ?_)
  ·rw [if_pos d9] at H
   refine EW.skip (by kernel_rfl) ?_
   refine EQ.code ?_
   refine EW.sq (by kernel_rfl) ?_
   refine EW.sq (by kernel_rfl) ?_
   refine EW.rg (by kernel_rfl) ?_
   refine EL.quick 2 [6, 37] [(6, pt a1 0), (37, .bool (!(b4)))] (by kernel_rfl) ?_
   refine EL.done (by kernel_rfl) ?_
   refine EQ.code ?_
   refine EW.cdQ (b := !(b4)) (b4 = true) (false) (by kernel_rfl) (by kernel_rfl) ⟨fun h => (by rw [h] <;> rfl), fun h => (by rw [Bool.eq_false_iff.2 h] <;> rfl)⟩ (fun e0 => ?_) (fun e0 => ?_)
   ·rw [if_pos e0] at H
    refine EW.skip (by kernel_rfl) ?_
    refine EQ.code ?_
    refine EW.sq (by kernel_rfl) ?_
    refine EW.rg (by kernel_rfl) ?_
    refine EL.of (EO.Y (YO.loadBox hS 0 rfl 54 0 2 (ag [ia (a0.getD (Int.tmod a4 6).toNat 0), ib a3]) 48 (by kernel_rfl) (by kernel_rfl) (by kernel_rfl) (by kernel_rfl)) ?_)
    obtain ⟨e1, f5, H⟩ := b1_out H
    have hq := instr_Text.calls f5 hS gB
    refine EL.of (EO.callD 32 [ag [ia (a0.getD (Int.tmod a4 6).toNat 0), ib a3]] _ 49 (by kernel_rfl) (by kernel_rfl) (by kernel_rfl) hq ?_)
    rintro v w ⟨rfl, hS⟩
    obtain ⟨a6, a7, b6, f6, H⟩ := b3_out H
    have hq := instr_Parse.calls f6 hS gB
    refine EL.of (EO.callD 33 [.string e1] _ 50 (by kernel_rfl) (by kernel_rfl) (by kernel_rfl) hq ?_)
    rintro v w ⟨rfl, hS⟩
    refine EL.quick 3 [6, 51, 52] [(6, pt a1 0), (51, ag [ia a6, ib a7]), (52, .bool (b6))] (by kernel_rfl) ?_
    refine EL.of (EO.alloc hS 54 (ag [ia 0, ib 0]) [ia 0, ib 0] 8 (by kernel_rfl) (by kernel_rfl) (by kernel_rfl) (by kernel_rfl) (by first | rfl | kernel_rfl) ?_)
    intro a2 w hS
    refine EL.of (EO.storeBox (os' := Ass.box 54 a2 [ia a6, ib a7] :: Ass.box 54 a1 [ia (a0.getD (Int.tmod a4 6).toNat 0), ib a3] :: Ass.own 3 (Kd.int .i64) (some ⟨b7, 0, none⟩) 6 a0 :: os) hS 0 rfl 54 0 (ag [ia a6, ib a7]) [ia a6, ib a7] (by kernel_rfl) (by kernel_rfl) (by kernel_rfl) (by kernel_rfl) (by kernel_rfl) (by kernel_rfl) rfl rfl ?_)
    intro w hS
    refine EL.quick 1 [6, 8, 9] [(6, pt a1 0), (8, pt a2 0), (9, .bool (b6))] (by kernel_rfl) ?_
    refine EL.done (by kernel_rfl) ?_
    refine EQ.code ?_
    refine EW.sq (by kernel_rfl) ?_
    refine EW.rg (by kernel_rfl) ?_
    refine EL.of (EO.Y (YO.loadBox hS 1 rfl 54 0 2 (ag [ia (a0.getD (Int.tmod a4 6).toNat 0), ib a3]) 54 (by kernel_rfl) (by kernel_rfl) (by kernel_rfl) (by kernel_rfl)) ?_)
    obtain ⟨c3, f7, H⟩ := b1_out H
    have hq := instr_Put.calls f7 hS
    refine EL.of (EO.callD 31 [ag [ia (a0.getD (Int.tmod a4 6).toNat 0), ib a3]] _ 55 (by kernel_rfl) (by kernel_rfl) (by kernel_rfl) hq ?_)
    rintro v w ⟨d5, d6, rfl, hS⟩
    have hS := St.fr hS 0 rfl
    have hS : St B _ (Ass.box 54 a2 [ia a6, ib a7] :: Ass.box 54 a1 [ia (a0.getD (Int.tmod a4 6).toNat 0), ib a3] :: Ass.own 3 (Kd.int .i64) (some ⟨b7, 0, none⟩) 6 a0 :: os) (Ro.sl (Kd.int .u8) d5 d6 c3 :: rs) := hS.re [] [] rfl (sub_cons 0 rfl (sub_tail (sub_self)))
    obtain ⟨d2, e2, f8, H⟩ := b2_out H
    have hq := pack_New.calls f8 hS
    refine EL.of (EO.callD 35 [sv d5 d6 c3] _ 56 (by kernel_rfl) (by kernel_rfl) (by kernel_rfl) hq ?_)
    rintro v w ⟨d7, e4, e5, rfl, hS⟩
    have hS : St B _ (Ass.box 112 d7 [sv e4 e5 d2, ia e2] :: Ass.box 54 a2 [ia a6, ib a7] :: Ass.box 54 a1 [ia (a0.getD (Int.tmod a4 6).toNat 0), ib a3] :: Ass.own 3 (Kd.int .i64) (some ⟨b7, 0, none⟩) 6 a0 :: os) (Ro.sl (Kd.int .u8) e4 e5 d2 :: Ro.sl (Kd.int .u8) d5 d6 c3 :: rs) := hS.re [0] [] rfl (sub_cons 0 rfl (sub_tail (sub_self)))
    obtain ⟨e9, f0, a8, a9, b0, f9, H⟩ := b5_out H
    have hq := instr_Take.calls f9 hS
    refine EL.of (EO.callD 34 [pt d7 0] _ 57 (by kernel_rfl) (by kernel_rfl) (by kernel_rfl) hq ?_)
    rintro v w ⟨f1, f2, rfl, hS⟩
    refine EL.quick 3 [6, 8, 9, 58, 59] [(6, pt a1 0), (8, pt a2 0), (9, .bool (b6)), (58, ag [ia a8, ib a9]), (59, .bool (b0))] (by kernel_rfl) ?_
    refine EL.of (EO.alloc hS 54 (ag [ia 0, ib 0]) [ia 0, ib 0] 10 (by kernel_rfl) (by kernel_rfl) (by kernel_rfl) (by kernel_rfl) (by first | rfl | kernel_rfl) ?_)
    intro a5 w hS
    refine EL.of (EO.storeBox (os' := Ass.box 54 a5 [ia a8, ib a9] :: Ass.box 112 d7 [sv f1 f2 e9, ia f0] :: Ass.box 54 a2 [ia a6, ib a7] :: Ass.box 54 a1 [ia (a0.getD (Int.tmod a4 6).toNat 0), ib a3] :: Ass.own 3 (Kd.int .i64) (some ⟨b7, 0, none⟩) 6 a0 :: os) hS 0 rfl 54 0 (ag [ia a8, ib a9]) [ia a8, ib a9] (by kernel_rfl) (by kernel_rfl) (by kernel_rfl) (by kernel_rfl) (by kernel_rfl) (by kernel_rfl) rfl rfl ?_)
    intro w hS
    refine EL.quick 1 [6, 8, 9, 10, 11] [(6, pt a1 0), (8, pt a2 0), (9, .bool (b6)), (10, pt a5 0), (11, .bool (b0))] (by kernel_rfl) ?_
    refine EL.done (by kernel_rfl) ?_
    refine EQ.code ?_
    refine EW.sq (by kernel_rfl) ?_
    refine EW.rg (by kernel_rfl) ?_
    refine EL.quick 2 [6, 8, 10, 11, 61] [(6, pt a1 0), (8, pt a2 0), (10, pt a5 0), (11, .bool (b0)), (61, .bool (b6))] (by kernel_rfl) ?_
    by_cases c6 : b6 = true
    ·rw [if_pos c6] at H
     refine EL.keep [6, 8, 10, 11, 61] [(6, pt a1 0), (8, pt a2 0), (10, pt a5 0), (11, .bool (b0)), (61, .bool (b6))] (by kernel_rfl) ?_
     refine EL.as' [(6, pt a1 0), (8, pt a2 0), (10, pt a5 0), (11, .bool (b0)), (61, .bool (true))] (by simp only [sv, c6, Bool.not_true, Bool.not_false]) ?_
     refine EL.quick 3 [6, 8, 10, 64] [(6, pt a1 0), (8, pt a2 0), (10, pt a5 0), (64, .bool (b0))] (by kernel_rfl) ?_
     by_cases c7 : b0 = true
     ·rw [if_pos c7] at H
      refine EL.keep [6, 8, 10, 64] [(6, pt a1 0), (8, pt a2 0), (10, pt a5 0), (64, .bool (b0))] (by kernel_rfl) ?_
      refine EL.as' [(6, pt a1 0), (8, pt a2 0), (10, pt a5 0), (64, .bool (true))] (by simp only [sv, c7, Bool.not_true, Bool.not_false]) ?_
      refine EL.of (EO.Y (YO.loadBox hS 2 rfl 54 0 2 (ag [ia a6, ib a7]) 65 (by kernel_rfl) (by kernel_rfl) (by kernel_rfl) (by kernel_rfl)) ?_)
      refine EL.of (EO.Y (YO.loadBox hS 3 rfl 54 0 2 (ag [ia (a0.getD (Int.tmod a4 6).toNat 0), ib a3]) 66 (by kernel_rfl) (by kernel_rfl) (by kernel_rfl) (by kernel_rfl)) ?_)
      refine EL.of (EO.Y (YO.eqAg .eql 54 (.tmp 65) (.tmp 66) #[ia a6, ib a7] #[ia (a0.getD (Int.tmod a4 6).toNat 0), ib a3] ((a6 == (a0.getD (Int.tmod a4 6).toNat 0)) && ((a7 == a3) && true)) (((a6 == (a0.getD (Int.tmod a4 6).toNat 0)) && ((a7 == a3) && true))) 67 (by kernel_rfl) (by kernel_rfl) (by kernel_rfl) (by kernel_rfl) (by kernel_rfl) (.inl ⟨rfl, rfl⟩)) ?_)
      refine EL.quick 2 [6, 10, 69] [(6, pt a1 0), (10, pt a5 0), (69, .bool (((a6 == (a0.getD (Int.tmod a4 6).toNat 0)) && ((a7 == a3) && true))))] (by kernel_rfl) ?_
      by_cases c8 : ((a6 == (a0.getD (Int.tmod a4 6).toNat 0)) && ((a7 == a3) && true)) = true
      ·rw [if_pos c8] at H
       refine EL.keep [6, 10, 69] [(6, pt a1 0), (10, pt a5 0), (69, .bool (((a6 == (a0.getD (Int.tmod a4 6).toNat 0)) && ((a7 == a3) && true))))] (by kernel_rfl) ?_
       refine EL.as' [(6, pt a1 0), (10, pt a5 0), (69, .bool (true))] (by simp only [sv, c8, Bool.not_true, Bool.not_false]) ?_
       refine EL.of (EO.Y (YO.loadBox hS 0 rfl 54 0 2 (ag [ia a8, ib a9]) 70 (by kernel_rfl) (by kernel_rfl) (by kernel_rfl) (by kernel_rfl)) ?_)
       refine EL.of (EO.Y (YO.loadBox hS 3 rfl 54 0 2 (ag [ia (a0.getD (Int.tmod a4 6).toNat 0), ib a3]) 71 (by kernel_rfl) (by kernel_rfl) (by kernel_rfl) (by kernel_rfl)) ?_)
       refine EL.of (EO.Y (YO.eqAg .eql 54 (.tmp 70) (.tmp 71) #[ia a8, ib a9] #[ia (a0.getD (Int.tmod a4 6).toNat 0), ib a3] ((a8 == (a0.getD (Int.tmod a4 6).toNat 0)) && ((a9 == a3) && true)) (((a8 == (a0.getD (Int.tmod a4 6).toNat 0)) && ((a9 == a3) && true))) 72 (by kernel_rfl) (by kernel_rfl) (by kernel_rfl) (by kernel_rfl) (by kernel_rfl) (.inl ⟨rfl, rfl⟩)) ?_)
       refine EL.quick 2 [6, 74] [(6, pt a1 0), (74, .bool (((a8 == (a0.getD (Int.tmod a4 6).toNat 0)) && ((a9 == a3) && true))))] (by kernel_rfl) ?_
       by_cases c9 : ((a8 == (a0.getD (Int.tmod a4 6).toNat 0)) && ((a9 == a3) && true)) = true
       ·rw [if_pos c9] at H
        refine EL.keep [6, 74] [(6, pt a1 0), (74, .bool (((a8 == (a0.getD (Int.tmod a4 6).toNat 0)) && ((a9 == a3) && true))))] (by kernel_rfl) ?_
        refine EL.as' [(6, pt a1 0), (74, .bool (true))] (by simp only [sv, c9, Bool.not_true, Bool.not_false]) ?_
        refine EL.of (EO.Y (YO.loadBox hS 3 rfl 54 0 2 (ag [ia (a0.getD (Int.tmod a4 6).toNat 0), ib a3]) 75 (by kernel_rfl) (by kernel_rfl) (by kernel_rfl) (by kernel_rfl)) ?_)
        obtain ⟨b8, g0, H⟩ := b1_out H
        have hq := instr_Put.calls g0 hS
        refine EL.of (EO.callD 31 [ag [ia (a0.getD (Int.tmod a4 6).toNat 0), ib a3]] _ 76 (by kernel_rfl) (by kernel_rfl) (by kernel_rfl) hq ?_)
        rintro v w ⟨g5, g8, rfl, hS⟩
        refine EL.quick 4 [6, 80] [(6, pt a1 0), (80, .bool (decide ((b8.length : Int) ≥ 2)))] (by kernel_rfl) ?_
        by_cases d0 : (b8.length : Int) ≥ 2
        ·rw [if_pos d0] at H
         refine EL.keep [6, 80] [(6, pt a1 0), (80, .bool (decide ((b8.length : Int) ≥ 2)))] (by kernel_rfl) ?_
         refine EL.as' [(6, pt a1 0), (80, .bool (true))] (by simp only [sv, dec_t d0, Bool.not_true, Bool.not_false]) ?_
         refine EL.of (EO.Y (YO.loadBox hS 4 rfl 54 0 2 (ag [ia (a0.getD (Int.tmod a4 6).toNat 0), ib a3]) 81 (by kernel_rfl) (by kernel_rfl) (by kernel_rfl) (by kernel_rfl)) ?_)
         obtain ⟨d3, g1, H⟩ := b1_out H
         have hq := instr_Put.calls g1 hS
         refine EL.of (EO.callD 31 [ag [ia (a0.getD (Int.tmod a4 6).toNat 0), ib a3]] _ 82 (by kernel_rfl) (by kernel_rfl) (by kernel_rfl) hq ?_)
         rintro v w ⟨g6, g9, rfl, hS⟩
         refine EL.quick 4 [4] [(4, .bool (decide ((d3.length : Int) ≤ 6)))] (by kernel_rfl) ?_
         refine EL.done (by kernel_rfl) ?_
         refine EQ.code ?_
         refine EW.ret (by kernel_rfl) ?_
         obtain rfl := Option.some.inj H
         exact EQ.leave (.bool (decide ((d3.length : Int) ≤ 6))) (by kernel_rfl) ⟨_, rfl, rfl, (hS.re [] [0, 0, 0, 0, 0, 0, 0] rfl (sub_tail (sub_tail (sub_tail (sub_self)))))⟩
        rw [if_neg d0] at H
        refine EL.keep [6, 80] [(6, pt a1 0), (80, .bool (decide ((b8.length : Int) ≥ 2)))] (by kernel_rfl) ?_
        refine EL.as' [(6, pt a1 0), (80, .bool (false))] (by simp only [sv, dec_f d0, Bool.not_true, Bool.not_false]) ?_
        refine EL.quick 6 [4] [(4, .bool (false))] (by kernel_rfl) ?_
        refine EL.done (by kernel_rfl) ?_
        refine EQ.code ?_
        refine EW.ret (by kernel_rfl) ?_
        obtain rfl := Option.some.inj H
        exact EQ.leave (.bool (false)) (by kernel_rfl) ⟨_, rfl, rfl, (hS.re [] [0, 0, 0, 0, 0, 0] rfl (sub_tail (sub_tail (sub_tail (sub_self)))))⟩
       rw [if_neg c9] at H
       refine EL.keep [6, 74] [(6, pt a1 0), (74, .bool (((a8 == (a0.getD (Int.tmod a4 6).toNat 0)) && ((a9 == a3) && true))))] (by kernel_rfl) ?_
       refine EL.as' [(6, pt a1 0), (74, .bool (false))] (by simp only [sv, (Bool.eq_false_iff.2 c9), Bool.not_true, Bool.not_false]) ?_
       refine EL.quick 12 [4] [(4, .bool (false))] (by kernel_rfl) ?_
       refine EL.done (by kernel_rfl) ?_
       refine EQ.code ?_
       refine EW.ret (by kernel_rfl) ?_
       obtain rfl := Option.some.inj H
       exact EQ.leave (.bool (false)) (by kernel_rfl) ⟨_, rfl, rfl, (hS.re [] [0, 0, 0, 0, 0] rfl (sub_tail (sub_tail (sub_tail (sub_self)))))⟩
      rw [if_neg c8] at H
      refine EL.keep [6, 10, 69] [(6, pt a1 0), (10, pt a5 0), (69, .bool (((a6 == (a0.getD (Int.tmod a4 6).toNat 0)) && ((a7 == a3) && true))))] (by kernel_rfl) ?_
      refine EL.as' [(6, pt a1 0), (10, pt a5 0), (69, .bool (false))] (by simp only [sv, (Bool.eq_false_iff.2 c8), Bool.not_true, Bool.not_false]) ?_
      refine EL.quick 17 [4] [(4, .bool (false))] (by kernel_rfl) ?_
      refine EL.done (by kernel_rfl) ?_
      refine EQ.code ?_
      refine EW.ret (by kernel_rfl) ?_
      obtain rfl := Option.some.inj H
      exact EQ.leave (.bool (false)) (by kernel_rfl) ⟨_, rfl, rfl, (hS.re [] [0, 0, 0, 0, 0] rfl (sub_tail (sub_tail (sub_tail (sub_self)))))⟩
     rw [if_neg c7] at H
     refine EL.keep [6, 8, 10, 64] [(6, pt a1 0), (8, pt a2 0), (10, pt a5 0), (64, .bool (b0))] (by kernel_rfl) ?_
     refine EL.as' [(6, pt a1 0), (8, pt a2 0), (10, pt a5 0), (64, .bool (false))] (by simp only [sv, (Bool.eq_false_iff.2 c7), Bool.not_true, Bool.not_false]) ?_
     refine EL.quick 22 [4] [(4, .bool (false))] (by kernel_rfl) ?_
     refine EL.done (by kernel_rfl) ?_
     refine EQ.code ?_
     refine EW.ret (by kernel_rfl) ?_
     obtain rfl := Option.some.inj H
     exact EQ.leave (.bool (false)) (by kernel_rfl) ⟨_, rfl, rfl, (hS.re [] [0, 0, 0, 0, 0] rfl (sub_tail (sub_tail (sub_tail (sub_self)))))⟩
    rw [if_neg c6] at H
    refine EL.keep [6, 8, 10, 11, 61] [(6, pt a1 0), (8, pt a2 0), (10, pt a5 0), (11, .bool (b0)), (61, .bool (b6))] (by kernel_rfl) ?_
    refine EL.as' [(6, pt a1 0), (8, pt a2 0), (10, pt a5 0), (11, .bool (b0)), (61, .bool (false))] (by simp only [sv, (Bool.eq_false_iff.2 c6), Bool.not_true, Bool.not_false]) ?_
    refine EL.quick 25 [4] [(4, .bool (false))] (by kernel_rfl) ?_
    refine EL.done (by kernel_rfl) ?_
    refine EQ.code ?_
    refine EW.ret (by kernel_rfl) ?_
    obtain rfl := Option.some.inj H
    exact EQ.leave (.bool (false)) (by kernel_rfl) ⟨_, rfl, rfl, (hS.re [] [0, 0, 0, 0, 0] rfl (sub_tail (sub_tail (sub_tail (sub_self)))))⟩
   rw [if_neg e0] at H
   refine EW.sq (by kernel_rfl) ?_
   refine EW.rg (by kernel_rfl) ?_
   refine EL.of (EO.Y (YO.loadBox hS 0 rfl 54 0 2 (ag [ia (a0.getD (Int.tmod a4 6).toNat 0), ib a3]) 38 (by kernel_rfl) (by kernel_rfl) (by kernel_rfl) (by kernel_rfl)) ?_)
   obtain ⟨b9, g2, H⟩ := b1_out H
   have hq := instr_Put.calls g2 hS
   refine EL.of (EO.callD 31 [ag [ia (a0.getD (Int.tmod a4 6).toNat 0), ib a3]] _ 39 (by kernel_rfl) (by kernel_rfl) (by kernel_rfl) hq ?_)
   rintro v w ⟨g7, i0, rfl, hS⟩
   refine EL.quick 3 [6, 42] [(6, pt a1 0), (42, .bool (decide ((b9.length : Int) = 0)))] (by kernel_rfl) ?_
   by_cases d1 : (b9.length : Int) = 0
   ·rw [if_pos d1] at H
    refine EL.keep [6, 42] [(6, pt a1 0), (42, .bool (decide ((b9.length : Int) = 0)))] (by kernel_rfl) ?_
    refine EL.as' [(6, pt a1 0), (42, .bool (true))] (by simp only [sv, dec_t d1, Bool.not_true, Bool.not_false]) ?_
    refine EL.of (EO.Y (YO.loadBox hS 1 rfl 54 0 2 (ag [ia (a0.getD (Int.tmod a4 6).toNat 0), ib a3]) 43 (by kernel_rfl) (by kernel_rfl) (by kernel_rfl) (by kernel_rfl)) ?_)
    obtain ⟨d4, g3, H⟩ := b1_out H
    have hq := instr_Text.calls g3 hS gB
    refine EL.of (EO.callD 32 [ag [ia (a0.getD (Int.tmod a4 6).toNat 0), ib a3]] _ 44 (by kernel_rfl) (by kernel_rfl) (by kernel_rfl) hq ?_)
    rintro v w ⟨rfl, hS⟩
    refine EL.quick 3 [4] [(4, .bool ((d4.toList == (⟨#[]⟩ : ByteArray).toList)))] (by kernel_rfl) ?_
    refine EL.done (by kernel_rfl) ?_
    refine EQ.code ?_
    refine EW.ret (by kernel_rfl) ?_
    refine EQ.ret ?_
    obtain rfl := Option.some.inj H
    exact EQ.leave (.bool ((d4.toList == (⟨#[]⟩ : ByteArray).toList))) (by kernel_rfl) ⟨_, rfl, rfl, (hS.re [] [0, 0, 0] rfl (sub_self))⟩
   rw [if_neg d1] at H
   refine EL.keep [6, 42] [(6, pt a1 0), (42, .bool (decide ((b9.length : Int) = 0)))] (by kernel_rfl) ?_
   refine EL.as' [(6, pt a1 0), (42, .bool (false))] (by simp only [sv, dec_f d1, Bool.not_true, Bool.not_false]) ?_
   refine EL.quick 5 [4] [(4, .bool (false))] (by kernel_rfl) ?_
   refine EL.done (by kernel_rfl) ?_
   refine EQ.code ?_
   refine EW.ret (by kernel_rfl) ?_
   refine EQ.ret ?_
   obtain rfl := Option.some.inj H
   exact EQ.leave (.bool (false)) (by kernel_rfl) ⟨_, rfl, rfl, (hS.re [] [0, 0, 0] rfl (sub_self))⟩
  rw [if_neg d9] at H
  refine EW.sq (by kernel_rfl) ?_
  refine EW.rg (by kernel_rfl) ?_
  refine EL.quick 1 [4] [(4, .bool (false))] (by kernel_rfl) ?_
  refine EL.done (by kernel_rfl) ?_
  refine EQ.code ?_
  refine EW.ret (by kernel_rfl) ?_
  refine EQ.ret ?_
  obtain rfl := Option.some.inj H
  exact EQ.leave (.bool (false)) (by kernel_rfl) ⟨_, rfl, rfl, (hS.re [] [0, 0] rfl (sub_self))⟩
 rw [if_neg d8] at H
 refine EW.sq (by kernel_rfl) ?_
 refine EW.rg (by kernel_rfl) ?_
 refine EL.quick 1 [4] [(4, .bool (false))] (by kernel_rfl) ?_
 refine EL.done (by kernel_rfl) ?_
 refine EQ.code ?_
 refine EW.ret (by kernel_rfl) ?_
 refine EQ.ret ?_
 obtain rfl := Option.some.inj H
 exact EQ.leave (.bool (false)) (by kernel_rfl) ⟨_, rfl, rfl, (hS.re [] [] rfl (sub_self))⟩

def confidantlaw6_InstrNumbers.Pure : Prop := ∀ (a3 : Int) (a4 : Int), (Lit.int .i32 a3).wf = true → (Lit.int .u8 a4).wf = true → ∃ K, confidantlaw6_InstrNumbers.f K a3 a4 = some true

end Go.Proofs.YtocdpimpkifdmaaDoor.G
