import Derived.Test.YtocdpimpkifdmaaDoorProg
import Derived.Test.YtocdpimpkifdmaaDoorFwShort
import Derived.Test.YtocdpimpkifdmaaDoorFwOpen
import Derived.Test.YtocdpimpkifdmaaDoorG0
import Derived.Test.YtocdpimpkifdmaaDoorG1
namespace Go.Proofs.YtocdpimpkifdmaaDoor.G
open Go Go.Fw Go.RowKit Go.Proofs
set_option linter.unusedVariables false
set_option linter.unusedSimpArgs false

/-! ### confidant/confidantref21.EventText: function 26 -/
def confidantref21_EventText.f (K : Nat) (a0 : S28) : Option ByteArray := b1 (confidantref21_EventRight.f K a0) fun (b0 : Bool) => (if b0 = true then (b1 (confidantref5_Decimal.f K a0.f0) fun (a2 : ByteArray) => (if a2.size + (⟨#[32]⟩ : ByteArray).size ≤ 9223372036854775807 then (b1 (confidantref5_Decimal.f K a0.f1) fun (a3 : ByteArray) => (if (a2 ++ (⟨#[32]⟩ : ByteArray)).size + a3.size ≤ 9223372036854775807 then (if ((a2 ++ (⟨#[32]⟩ : ByteArray)) ++ a3).size + (⟨#[32]⟩ : ByteArray).size ≤ 9223372036854775807 then (lt ([(⟨#[116, 97, 107, 101]⟩ : ByteArray), (⟨#[115, 116, 101, 97, 108]⟩ : ByteArray), (⟨#[109, 105, 115, 115]⟩ : ByteArray), (⟨#[112, 97, 114, 107]⟩ : ByteArray), (⟨#[119, 97, 107, 101]⟩ : ByteArray), (⟨#[108, 101, 97, 118, 101]⟩ : ByteArray), (⟨#[101, 110, 116, 101, 114]⟩ : ByteArray), (⟨#[102, 111, 114, 107]⟩ : ByteArray), (⟨#[101, 109, 105, 116]⟩ : ByteArray), (⟨#[100, 111, 110, 101]⟩ : ByteArray), (⟨#[102, 97, 105, 108]⟩ : ByteArray)] : List ByteArray) fun a1 => (if 0 ≤ (IntKind.i64.wrap (a0.f2 - 1)) then (if (IntKind.i64.wrap (a0.f2 - 1)) < (a1.length : Int) then (if (((a2 ++ (⟨#[32]⟩ : ByteArray)) ++ a3) ++ (⟨#[32]⟩ : ByteArray)).size + (a1.getD (IntKind.i64.wrap (a0.f2 - 1)).toNat ⟨#[]⟩).size ≤ 9223372036854775807 then (if ((((a2 ++ (⟨#[32]⟩ : ByteArray)) ++ a3) ++ (⟨#[32]⟩ : ByteArray)) ++ (a1.getD (IntKind.i64.wrap (a0.f2 - 1)).toNat ⟨#[]⟩)).size + (⟨#[32]⟩ : ByteArray).size ≤ 9223372036854775807 then (b1 (confidantref5_Decimal.f K a0.f3) fun (a5 : ByteArray) => (if (((((a2 ++ (⟨#[32]⟩ : ByteArray)) ++ a3) ++ (⟨#[32]⟩ : ByteArray)) ++ (a1.getD (IntKind.i64.wrap (a0.f2 - 1)).toNat ⟨#[]⟩)) ++ (⟨#[32]⟩ : ByteArray)).size + a5.size ≤ 9223372036854775807 then (if ((((((a2 ++ (⟨#[32]⟩ : ByteArray)) ++ a3) ++ (⟨#[32]⟩ : ByteArray)) ++ (a1.getD (IntKind.i64.wrap (a0.f2 - 1)).toNat ⟨#[]⟩)) ++ (⟨#[32]⟩ : ByteArray)) ++ a5).size + (⟨#[32]⟩ : ByteArray).size ≤ 9223372036854775807 then (b1 (confidantref5_Decimal.f K (IntKind.i64.wrap a0.f4)) fun (a6 : ByteArray) => (if (((((((a2 ++ (⟨#[32]⟩ : ByteArray)) ++ a3) ++ (⟨#[32]⟩ : ByteArray)) ++ (a1.getD (IntKind.i64.wrap (a0.f2 - 1)).toNat ⟨#[]⟩)) ++ (⟨#[32]⟩ : ByteArray)) ++ a5) ++ (⟨#[32]⟩ : ByteArray)).size + a6.size ≤ 9223372036854775807 then (if ((((((((a2 ++ (⟨#[32]⟩ : ByteArray)) ++ a3) ++ (⟨#[32]⟩ : ByteArray)) ++ (a1.getD (IntKind.i64.wrap (a0.f2 - 1)).toNat ⟨#[]⟩)) ++ (⟨#[32]⟩ : ByteArray)) ++ a5) ++ (⟨#[32]⟩ : ByteArray)) ++ a6).size + (⟨#[32]⟩ : ByteArray).size ≤ 9223372036854775807 then (b1 (confidantref5_Decimal.f K (IntKind.i64.wrap a0.f5)) fun (a7 : ByteArray) => (if (((((((((a2 ++ (⟨#[32]⟩ : ByteArray)) ++ a3) ++ (⟨#[32]⟩ : ByteArray)) ++ (a1.getD (IntKind.i64.wrap (a0.f2 - 1)).toNat ⟨#[]⟩)) ++ (⟨#[32]⟩ : ByteArray)) ++ a5) ++ (⟨#[32]⟩ : ByteArray)) ++ a6) ++ (⟨#[32]⟩ : ByteArray)).size + a7.size ≤ 9223372036854775807 then (if ((((((((((a2 ++ (⟨#[32]⟩ : ByteArray)) ++ a3) ++ (⟨#[32]⟩ : ByteArray)) ++ (a1.getD (IntKind.i64.wrap (a0.f2 - 1)).toNat ⟨#[]⟩)) ++ (⟨#[32]⟩ : ByteArray)) ++ a5) ++ (⟨#[32]⟩ : ByteArray)) ++ a6) ++ (⟨#[32]⟩ : ByteArray)) ++ a7).size + (⟨#[32]⟩ : ByteArray).size ≤ 9223372036854775807 then (b1 (confidantref5_Decimal.f K (IntKind.i64.wrap a0.f6)) fun (a9 : ByteArray) => (if (((((((((((a2 ++ (⟨#[32]⟩ : ByteArray)) ++ a3) ++ (⟨#[32]⟩ : ByteArray)) ++ (a1.getD (IntKind.i64.wrap (a0.f2 - 1)).toNat ⟨#[]⟩)) ++ (⟨#[32]⟩ : ByteArray)) ++ a5) ++ (⟨#[32]⟩ : ByteArray)) ++ a6) ++ (⟨#[32]⟩ : ByteArray)) ++ a7) ++ (⟨#[32]⟩ : ByteArray)).size + a9.size ≤ 9223372036854775807 then (some ((((((((((((a2 ++ (⟨#[32]⟩ : ByteArray)) ++ a3) ++ (⟨#[32]⟩ : ByteArray)) ++ (a1.getD (IntKind.i64.wrap (a0.f2 - 1)).toNat ⟨#[]⟩)) ++ (⟨#[32]⟩ : ByteArray)) ++ a5) ++ (⟨#[32]⟩ : ByteArray)) ++ a6) ++ (⟨#[32]⟩ : ByteArray)) ++ a7) ++ (⟨#[32]⟩ : ByteArray)) ++ a9)) else none)) else none) else none)) else none) else none)) else none) else none)) else none) else none) else none) else none)) else none) else none)) else none)) else (some (⟨#[]⟩ : ByteArray)))
set_option maxRecDepth 100000 in
theorem confidantref21_EventText.calls {K : Nat} {a0 : S28} {b6 : ByteArray} {B w : World} {os : List Ass} {rs : List Ro} (H : confidantref21_EventText.f K a0 = some b6) (hS : St B w (os) (rs)) :
  Calls Tryd.prog 26 [ag (encS28 a0)].toArray w (fun en w' => ∃ v, en = .returned v ∧ v = .string b6 ∧ St B w' (os) (rs)) := by
 unfold confidantref21_EventText.f at H
 refine calls_of_EW (args := [ag (encS28 a0)]) (c := Cd26) 49 Tryd.func26 (by kernel_rfl) (by kernel_rfl) (by kernel_rfl) ?_
 refine EW.sq (by kernel_rfl) ?_
 refine EW.rg (by kernel_rfl) ?_
 refine EL.of (EO.box hS 28 (ag (encS28 a0)) (encS28 a0) 1 (by kernel_rfl) (by kernel_rfl) (by kernel_rfl) (by first | rfl | kernel_rfl) ?_)
 intro a4 w hS
 refine EL.quick 1 [1] [(1, pt a4 0)] (by kernel_rfl) ?_
 refine EL.done (by kernel_rfl) ?_
 refine EQ.code ?_
 refine EW.sq (by kernel_rfl) ?_
 refine EW.sq (by kernel_rfl) ?_
 refine EW.rg (by kernel_rfl) ?_
 refine EL.of (EO.Y (YO.loadBox hS 0 rfl 28 0 7 (ag (encS28 a0)) 4 (by kernel_rfl) (by kernel_rfl) (by kernel_rfl) (by kernel_rfl)) ?_)
 obtain ⟨b0, c9, H⟩ := b1_out H
 have hq := confidantref21_EventRight.calls c9 hS
 refine EL.of (EO.callD 24 [ag (encS28 a0)] _ 5 (by kernel_rfl) (by kernel_rfl) (by kernel_rfl) hq ?_)
 rintro v w ⟨rfl, hS⟩
 refine EL.quick 1 [1, 6] [(1, pt a4 0), (6, .bool (!(b0)))] (by kernel_rfl) ?_
 refine EL.done (by kernel_rfl) ?_
 refine EQ.code ?_
 refine EW.cdQ (b := !(b0)) (b0 = true) (false) (by kernel_rfl) (by kernel_rfl) ⟨fun h => (by rw [h] <;> rfl), fun h => (by rw [Bool.eq_false_iff.2 h] <;> rfl)⟩ (fun b2 => ?_) (fun b2 => ?_)
 ·rw [if_pos b2] at H
  refine EW.skip (by kernel_rfl) ?_
  refine EQ.code ?_
  refine EW.sq (by kernel_rfl) ?_
  obtain ⟨a2, d0, H⟩ := b1_out H
  obtain ⟨b7, H⟩ := ite_in H
  obtain ⟨a3, d1, H⟩ := b1_out H
  obtain ⟨b8, H⟩ := ite_in H
  obtain ⟨b9, H⟩ := ite_in H
  have hS := hS.drew
  refine EW.dr (B := B) [Ass.box 28 a4 (encS28 a0)] [] (by kernel_rfl) (by kernel_rfl) ?_
  have hN : Region.noSelect Cd26.r.r.l.ops = true := (by kernel_rfl)
  have hF : freeAll Cd26.r.r.l.ops = true := (by kernel_rfl)
  have hC : Core B [Ass.box 28 a4 (encS28 a0)] [] _ := ⟨_, _, hS⟩
  refine ED.quick hN hF hC [0, 4] [1, 7, 11] 8 [(1, pt a4 0), (7, pt a4 0), (11, pt a4 1)] (bm 10 17) (by kernel_rfl) (by kernel_rfl) ?_
  refine ED.Y hN hF hC 1 7 (bm 10 19) (by kernel_rfl) (by kernel_rfl) rfl (fun _ _ _ hS => YO.loadBox hS 0 rfl 3 0 1 (ia a0.f0) 8 (by kernel_rfl) (by kernel_rfl) (by kernel_rfl) (by kernel_rfl)) ?_
  refine ED.Y hN hF hC 5 6 (bm 10 51) (by kernel_rfl) (by kernel_rfl) rfl (fun _ _ _ hS => YO.loadBox hS 0 rfl 3 1 1 (ia a0.f1) 12 (by kernel_rfl) (by kernel_rfl) (by kernel_rfl) (by kernel_rfl)) ?_
  have hq := confidantref5_Decimal.calls d0 hS
  refine ED.one 2 5 (bm 10 55) (by kernel_rfl) (by kernel_rfl) (by kernel_rfl) (EO.callD 55 [ia a0.f0] _ 9 (by kernel_rfl) (by kernel_rfl) (by kernel_rfl) hq ?_)
  rintro v w ⟨rfl, hS⟩
  have hC := hC.again ⟨_, _, hS⟩
  refine ⟨hC, ?_⟩
  refine ED.Y hN hF hC 3 4 (bm 10 63) (by kernel_rfl) (by kernel_rfl) rfl (fun _ _ _ hS => YO.strCat a2 (⟨#[32]⟩ : ByteArray) 10 (by kernel_rfl) (by kernel_rfl) (by kernel_rfl) b7) ?_
  have hq := confidantref5_Decimal.calls d1 hS
  refine ED.one 6 3 (bm 10 127) (by kernel_rfl) (by kernel_rfl) (by kernel_rfl) (EO.callD 55 [ia a0.f1] _ 13 (by kernel_rfl) (by kernel_rfl) (by kernel_rfl) hq ?_)
  rintro v w ⟨rfl, hS⟩
  have hC := hC.again ⟨_, _, hS⟩
  refine ⟨hC, ?_⟩
  refine ED.Y hN hF hC 7 2 (bm 10 255) (by kernel_rfl) (by kernel_rfl) rfl (fun _ _ _ hS => YO.strCat (a2 ++ (⟨#[32]⟩ : ByteArray)) a3 14 (by kernel_rfl) (by kernel_rfl) (by kernel_rfl) b8) ?_
  refine ED.Y hN hF hC 8 1 (bm 10 511) (by kernel_rfl) (by kernel_rfl) rfl (fun _ _ _ hS => YO.strCat ((a2 ++ (⟨#[32]⟩ : ByteArray)) ++ a3) (⟨#[32]⟩ : ByteArray) 15 (by kernel_rfl) (by kernel_rfl) (by kernel_rfl) b9) ?_
  refine ED.quick hN hF hC [9] [1, 3] 0 [(1, pt a4 0), (3, .string (((a2 ++ (⟨#[32]⟩ : ByteArray)) ++ a3) ++ (⟨#[32]⟩ : ByteArray)))] (bm 10 1023) (by kernel_rfl) (by kernel_rfl) ?_
  refine ED.done (by kernel_rfl) ?_
  refine EQ.code ?_
  refine EW.sq (by kernel_rfl) ?_
  refine EW.rg (by kernel_rfl) ?_
  refine EL.quick 1 [1, 16] [(1, pt a4 0), (16, .string (((a2 ++ (⟨#[32]⟩ : ByteArray)) ++ a3) ++ (⟨#[32]⟩ : ByteArray)))] (by kernel_rfl) ?_
  obtain ⟨a1, b5, H⟩ := lt_out H
  refine EL.of (EO.lit hS Kd.str 9 68 11 #[(0, .string (⟨#[116, 97, 107, 101]⟩ : ByteArray)), (1, .string (⟨#[115, 116, 101, 97, 108]⟩ : ByteArray)), (2, .string (⟨#[109, 105, 115, 115]⟩ : ByteArray)), (3, .string (⟨#[112, 97, 114, 107]⟩ : ByteArray)), (4, .string (⟨#[119, 97, 107, 101]⟩ : ByteArray)), (5, .string (⟨#[108, 101, 97, 118, 101]⟩ : ByteArray)), (6, .string (⟨#[101, 110, 116, 101, 114]⟩ : ByteArray)), (7, .string (⟨#[102, 111, 114, 107]⟩ : ByteArray)), (8, .string (⟨#[101, 109, 105, 116]⟩ : ByteArray)), (9, .string (⟨#[100, 111, 110, 101]⟩ : ByteArray)), (10, .string (⟨#[102, 97, 105, 108]⟩ : ByteArray))] [.string (⟨#[116, 97, 107, 101]⟩ : ByteArray), .string (⟨#[115, 116, 101, 97, 108]⟩ : ByteArray), .string (⟨#[109, 105, 115, 115]⟩ : ByteArray), .string (⟨#[112, 97, 114, 107]⟩ : ByteArray), .string (⟨#[119, 97, 107, 101]⟩ : ByteArray), .string (⟨#[108, 101, 97, 118, 101]⟩ : ByteArray), .string (⟨#[101, 110, 116, 101, 114]⟩ : ByteArray), .string (⟨#[102, 111, 114, 107]⟩ : ByteArray), .string (⟨#[101, 109, 105, 116]⟩ : ByteArray), .string (⟨#[100, 111, 110, 101]⟩ : ByteArray), .string (⟨#[102, 97, 105, 108]⟩ : ByteArray)] a1 17 (by kernel_rfl) (by kernel_rfl) (by kernel_rfl) (fun _ => (by kernel_rfl)) (by rw [b5]; rfl) (by kernel_rfl) (fun w G hr => (by rw [b5]; exact ⟨[.string (⟨#[116, 97, 107, 101]⟩ : ByteArray)], [.string (⟨#[115, 116, 101, 97, 108]⟩ : ByteArray), .string (⟨#[109, 105, 115, 115]⟩ : ByteArray), .string (⟨#[112, 97, 114, 107]⟩ : ByteArray), .string (⟨#[119, 97, 107, 101]⟩ : ByteArray), .string (⟨#[108, 101, 97, 118, 101]⟩ : ByteArray), .string (⟨#[101, 110, 116, 101, 114]⟩ : ByteArray), .string (⟨#[102, 111, 114, 107]⟩ : ByteArray), .string (⟨#[101, 109, 105, 116]⟩ : ByteArray), .string (⟨#[100, 111, 110, 101]⟩ : ByteArray), .string (⟨#[102, 97, 105, 108]⟩ : ByteArray)], rfl, rfl, ⟨[.string (⟨#[115, 116, 101, 97, 108]⟩ : ByteArray)], [.string (⟨#[109, 105, 115, 115]⟩ : ByteArray), .string (⟨#[112, 97, 114, 107]⟩ : ByteArray), .string (⟨#[119, 97, 107, 101]⟩ : ByteArray), .string (⟨#[108, 101, 97, 118, 101]⟩ : ByteArray), .string (⟨#[101, 110, 116, 101, 114]⟩ : ByteArray), .string (⟨#[102, 111, 114, 107]⟩ : ByteArray), .string (⟨#[101, 109, 105, 116]⟩ : ByteArray), .string (⟨#[100, 111, 110, 101]⟩ : ByteArray), .string (⟨#[102, 97, 105, 108]⟩ : ByteArray)], rfl, rfl, ⟨[.string (⟨#[109, 105, 115, 115]⟩ : ByteArray)], [.string (⟨#[112, 97, 114, 107]⟩ : ByteArray), .string (⟨#[119, 97, 107, 101]⟩ : ByteArray), .string (⟨#[108, 101, 97, 118, 101]⟩ : ByteArray), .string (⟨#[101, 110, 116, 101, 114]⟩ : ByteArray), .string (⟨#[102, 111, 114, 107]⟩ : ByteArray), .string (⟨#[101, 109, 105, 116]⟩ : ByteArray), .string (⟨#[100, 111, 110, 101]⟩ : ByteArray), .string (⟨#[102, 97, 105, 108]⟩ : ByteArray)], rfl, rfl, ⟨[.string (⟨#[112, 97, 114, 107]⟩ : ByteArray)], [.string (⟨#[119, 97, 107, 101]⟩ : ByteArray), .string (⟨#[108, 101, 97, 118, 101]⟩ : ByteArray), .string (⟨#[101, 110, 116, 101, 114]⟩ : ByteArray), .string (⟨#[102, 111, 114, 107]⟩ : ByteArray), .string (⟨#[101, 109, 105, 116]⟩ : ByteArray), .string (⟨#[100, 111, 110, 101]⟩ : ByteArray), .string (⟨#[102, 97, 105, 108]⟩ : ByteArray)], rfl, rfl, ⟨[.string (⟨#[119, 97, 107, 101]⟩ : ByteArray)], [.string (⟨#[108, 101, 97, 118, 101]⟩ : ByteArray), .string (⟨#[101, 110, 116, 101, 114]⟩ : ByteArray), .string (⟨#[102, 111, 114, 107]⟩ : ByteArray), .string (⟨#[101, 109, 105, 116]⟩ : ByteArray), .string (⟨#[100, 111, 110, 101]⟩ : ByteArray), .string (⟨#[102, 97, 105, 108]⟩ : ByteArray)], rfl, rfl, ⟨[.string (⟨#[108, 101, 97, 118, 101]⟩ : ByteArray)], [.string (⟨#[101, 110, 116, 101, 114]⟩ : ByteArray), .string (⟨#[102, 111, 114, 107]⟩ : ByteArray), .string (⟨#[101, 109, 105, 116]⟩ : ByteArray), .string (⟨#[100, 111, 110, 101]⟩ : ByteArray), .string (⟨#[102, 97, 105, 108]⟩ : ByteArray)], rfl, rfl, ⟨[.string (⟨#[101, 110, 116, 101, 114]⟩ : ByteArray)], [.string (⟨#[102, 111, 114, 107]⟩ : ByteArray), .string (⟨#[101, 109, 105, 116]⟩ : ByteArray), .string (⟨#[100, 111, 110, 101]⟩ : ByteArray), .string (⟨#[102, 97, 105, 108]⟩ : ByteArray)], rfl, rfl, ⟨[.string (⟨#[102, 111, 114, 107]⟩ : ByteArray)], [.string (⟨#[101, 109, 105, 116]⟩ : ByteArray), .string (⟨#[100, 111, 110, 101]⟩ : ByteArray), .string (⟨#[102, 97, 105, 108]⟩ : ByteArray)], rfl, rfl, ⟨[.string (⟨#[101, 109, 105, 116]⟩ : ByteArray)], [.string (⟨#[100, 111, 110, 101]⟩ : ByteArray), .string (⟨#[102, 97, 105, 108]⟩ : ByteArray)], rfl, rfl, ⟨[.string (⟨#[100, 111, 110, 101]⟩ : ByteArray)], [.string (⟨#[102, 97, 105, 108]⟩ : ByteArray)], rfl, rfl, ⟨[.string (⟨#[102, 97, 105, 108]⟩ : ByteArray)], [], rfl, rfl, rfl⟩⟩⟩⟩⟩⟩⟩⟩⟩⟩⟩)) ?_)
  intro a8 w hS
  refine EL.quick 1 [1, 16, 17, 18] [(1, pt a4 0), (16, .string (((a2 ++ (⟨#[32]⟩ : ByteArray)) ++ a3) ++ (⟨#[32]⟩ : ByteArray))), (17, sv (some ⟨a8, 0, none⟩) 11 a1), (18, pt a4 2)] (by kernel_rfl) ?_
  refine EL.of (EO.Y (YO.loadBox hS 1 rfl 3 2 1 (ia a0.f2) 19 (by kernel_rfl) (by kernel_rfl) (by kernel_rfl) (by kernel_rfl)) ?_)
  refine EL.quick 1 [1, 16, 17, 20] [(1, pt a4 0), (16, .string (((a2 ++ (⟨#[32]⟩ : ByteArray)) ++ a3) ++ (⟨#[32]⟩ : ByteArray))), (17, sv (some ⟨a8, 0, none⟩) 11 a1), (20, ia (IntKind.i64.wrap (a0.f2 - 1)))] (by kernel_rfl) ?_
  obtain ⟨b3, H⟩ := ite_in H
  obtain ⟨b4, H⟩ := ite_in H
  refine EL.of (EO.Y (YO.idx 68 1 ⟨a8, 0, none⟩ a1.length 11 .i64 (IntKind.i64.wrap (a0.f2 - 1)) 21 (by kernel_rfl) (by kernel_rfl) (by kernel_rfl) (by kernel_rfl) b3 b4) ?_)
  refine EL.of (EO.Y (YO.loadEl hS Kd.str ⟨a8, 0, none⟩ 11 a1 (Rd.own 0 9 rfl) ⟨#[]⟩ encS encS_of (IntKind.i64.wrap (a0.f2 - 1)) b3 b4 9 1 0 1 rfl (.string (a1.getD (IntKind.i64.wrap (a0.f2 - 1)).toNat ⟨#[]⟩)) 22 (by kernel_rfl) (by kernel_rfl) (by kernel_rfl) (by kernel_rfl)) ?_)
  obtain ⟨c0, H⟩ := ite_in H
  refine EL.of (EO.Y (YO.strCat (((a2 ++ (⟨#[32]⟩ : ByteArray)) ++ a3) ++ (⟨#[32]⟩ : ByteArray)) (a1.getD (IntKind.i64.wrap (a0.f2 - 1)).toNat ⟨#[]⟩) 23 (by kernel_rfl) (by kernel_rfl) (by kernel_rfl) c0) ?_)
  obtain ⟨c1, H⟩ := ite_in H
  refine EL.of (EO.Y (YO.strCat ((((a2 ++ (⟨#[32]⟩ : ByteArray)) ++ a3) ++ (⟨#[32]⟩ : ByteArray)) ++ (a1.getD (IntKind.i64.wrap (a0.f2 - 1)).toNat ⟨#[]⟩)) (⟨#[32]⟩ : ByteArray) 24 (by kernel_rfl) (by kernel_rfl) (by kernel_rfl) c1) ?_)
  refine EL.quick 1 [1, 3] [(1, pt a4 0), (3, .string (((((a2 ++ (⟨#[32]⟩ : ByteArray)) ++ a3) ++ (⟨#[32]⟩ : ByteArray)) ++ (a1.getD (IntKind.i64.wrap (a0.f2 - 1)).toNat ⟨#[]⟩)) ++ (⟨#[32]⟩ : ByteArray)))] (by kernel_rfl) ?_
  refine EL.done (by kernel_rfl) ?_
  refine EQ.code ?_
  refine EW.sq (by kernel_rfl) ?_
  obtain ⟨a5, d2, H⟩ := b1_out H
  obtain ⟨c2, H⟩ := ite_in H
  obtain ⟨c3, H⟩ := ite_in H
  obtain ⟨a6, d3, H⟩ := b1_out H
  obtain ⟨c4, H⟩ := ite_in H
  obtain ⟨c5, H⟩ := ite_in H
  have hS := hS.drew
  refine EW.dr (B := B) [Ass.own 9 Kd.str (some ⟨a8, 0, none⟩) 11 a1, Ass.box 28 a4 (encS28 a0)] [] (by kernel_rfl) (by kernel_rfl) ?_
  have hN : Region.noSelect Cd26.r.r.r.r.l.ops = true := (by kernel_rfl)
  have hF : freeAll Cd26.r.r.r.r.l.ops = true := (by kernel_rfl)
  have hC : Core B [Ass.own 9 Kd.str (some ⟨a8, 0, none⟩) 11 a1, Ass.box 28 a4 (encS28 a0)] [] _ := ⟨_, _, hS⟩
  refine ED.quick hN hF hC [0, 1, 6] [1, 25, 26, 31] 10 [(1, pt a4 0), (25, .string (((((a2 ++ (⟨#[32]⟩ : ByteArray)) ++ a3) ++ (⟨#[32]⟩ : ByteArray)) ++ (a1.getD (IntKind.i64.wrap (a0.f2 - 1)).toNat ⟨#[]⟩)) ++ (⟨#[32]⟩ : ByteArray))), (26, pt a4 3), (31, pt a4 4)] (bm 13 67) (by kernel_rfl) (by kernel_rfl) ?_
  refine ED.Y hN hF hC 2 9 (bm 13 71) (by kernel_rfl) (by kernel_rfl) rfl (fun _ _ _ hS => YO.loadBox hS 1 rfl 3 3 1 (ia a0.f3) 27 (by kernel_rfl) (by kernel_rfl) (by kernel_rfl) (by kernel_rfl)) ?_
  refine ED.Y hN hF hC 7 8 (bm 13 199) (by kernel_rfl) (by kernel_rfl) rfl (fun _ _ _ hS => YO.loadBox hS 1 rfl 21 4 1 (ib a0.f4) 32 (by kernel_rfl) (by kernel_rfl) (by kernel_rfl) (by kernel_rfl)) ?_
  refine ED.quick hN hF hC [8] [1, 25, 27, 33] 7 [(1, pt a4 0), (25, .string (((((a2 ++ (⟨#[32]⟩ : ByteArray)) ++ a3) ++ (⟨#[32]⟩ : ByteArray)) ++ (a1.getD (IntKind.i64.wrap (a0.f2 - 1)).toNat ⟨#[]⟩)) ++ (⟨#[32]⟩ : ByteArray))), (27, ia a0.f3), (33, ia (IntKind.i64.wrap a0.f4))] (bm 13 455) (by kernel_rfl) (by kernel_rfl) ?_
  have hq := confidantref5_Decimal.calls d2 hS
  refine ED.one 3 6 (bm 13 463) (by kernel_rfl) (by kernel_rfl) (by kernel_rfl) (EO.callD 55 [ia a0.f3] _ 28 (by kernel_rfl) (by kernel_rfl) (by kernel_rfl) hq ?_)
  rintro v w ⟨rfl, hS⟩
  have hC := hC.again ⟨_, _, hS⟩
  refine ⟨hC, ?_⟩
  refine ED.Y hN hF hC 4 5 (bm 13 479) (by kernel_rfl) (by kernel_rfl) rfl (fun _ _ _ hS => YO.strCat (((((a2 ++ (⟨#[32]⟩ : ByteArray)) ++ a3) ++ (⟨#[32]⟩ : ByteArray)) ++ (a1.getD (IntKind.i64.wrap (a0.f2 - 1)).toNat ⟨#[]⟩)) ++ (⟨#[32]⟩ : ByteArray)) a5 29 (by kernel_rfl) (by kernel_rfl) (by kernel_rfl) c2) ?_
  refine ED.Y hN hF hC 5 4 (bm 13 511) (by kernel_rfl) (by kernel_rfl) rfl (fun _ _ _ hS => YO.strCat ((((((a2 ++ (⟨#[32]⟩ : ByteArray)) ++ a3) ++ (⟨#[32]⟩ : ByteArray)) ++ (a1.getD (IntKind.i64.wrap (a0.f2 - 1)).toNat ⟨#[]⟩)) ++ (⟨#[32]⟩ : ByteArray)) ++ a5) (⟨#[32]⟩ : ByteArray) 30 (by kernel_rfl) (by kernel_rfl) (by kernel_rfl) c3) ?_
  have hq := confidantref5_Decimal.calls d3 hS
  refine ED.one 9 3 (bm 13 1023) (by kernel_rfl) (by kernel_rfl) (by kernel_rfl) (EO.callD 55 [ia (IntKind.i64.wrap a0.f4)] _ 34 (by kernel_rfl) (by kernel_rfl) (by kernel_rfl) hq ?_)
  rintro v w ⟨rfl, hS⟩
  have hC := hC.again ⟨_, _, hS⟩
  refine ⟨hC, ?_⟩
  refine ED.Y hN hF hC 10 2 (bm 13 2047) (by kernel_rfl) (by kernel_rfl) rfl (fun _ _ _ hS => YO.strCat (((((((a2 ++ (⟨#[32]⟩ : ByteArray)) ++ a3) ++ (⟨#[32]⟩ : ByteArray)) ++ (a1.getD (IntKind.i64.wrap (a0.f2 - 1)).toNat ⟨#[]⟩)) ++ (⟨#[32]⟩ : ByteArray)) ++ a5) ++ (⟨#[32]⟩ : ByteArray)) a6 35 (by kernel_rfl) (by kernel_rfl) (by kernel_rfl) c4) ?_
  refine ED.Y hN hF hC 11 1 (bm 13 4095) (by kernel_rfl) (by kernel_rfl) rfl (fun _ _ _ hS => YO.strCat ((((((((a2 ++ (⟨#[32]⟩ : ByteArray)) ++ a3) ++ (⟨#[32]⟩ : ByteArray)) ++ (a1.getD (IntKind.i64.wrap (a0.f2 - 1)).toNat ⟨#[]⟩)) ++ (⟨#[32]⟩ : ByteArray)) ++ a5) ++ (⟨#[32]⟩ : ByteArray)) ++ a6) (⟨#[32]⟩ : ByteArray) 36 (by kernel_rfl) (by kernel_rfl) (by kernel_rfl) c5) ?_
  refine ED.quick hN hF hC [12] [1, 3] 0 [(1, pt a4 0), (3, .string (((((((((a2 ++ (⟨#[32]⟩ : ByteArray)) ++ a3) ++ (⟨#[32]⟩ : ByteArray)) ++ (a1.getD (IntKind.i64.wrap (a0.f2 - 1)).toNat ⟨#[]⟩)) ++ (⟨#[32]⟩ : ByteArray)) ++ a5) ++ (⟨#[32]⟩ : ByteArray)) ++ a6) ++ (⟨#[32]⟩ : ByteArray)))] (bm 13 8191) (by kernel_rfl) (by kernel_rfl) ?_
  refine ED.done (by kernel_rfl) ?_
  refine EQ.code ?_
  refine EW.sq (by kernel_rfl) ?_
  obtain ⟨a7, d4, H⟩ := b1_out H
  obtain ⟨c6, H⟩ := ite_in H
  obtain ⟨c7, H⟩ := ite_in H
  obtain ⟨a9, d5, H⟩ := b1_out H
  obtain ⟨c8, H⟩ := ite_in H
  have hS := hS.drew
  refine EW.dr (B := B) [Ass.own 9 Kd.str (some ⟨a8, 0, none⟩) 11 a1, Ass.box 28 a4 (encS28 a0)] [] (by kernel_rfl) (by kernel_rfl) ?_
  have hN : Region.noSelect Cd26.r.r.r.r.r.l.ops = true := (by kernel_rfl)
  have hF : freeAll Cd26.r.r.r.r.r.l.ops = true := (by kernel_rfl)
  have hC : Core B [Ass.own 9 Kd.str (some ⟨a8, 0, none⟩) 11 a1, Ass.box 28 a4 (encS28 a0)] [] _ := ⟨_, _, hS⟩
  refine ED.quick hN hF hC [0, 1, 7] [37, 38, 44] 10 [(37, .string (((((((((a2 ++ (⟨#[32]⟩ : ByteArray)) ++ a3) ++ (⟨#[32]⟩ : ByteArray)) ++ (a1.getD (IntKind.i64.wrap (a0.f2 - 1)).toNat ⟨#[]⟩)) ++ (⟨#[32]⟩ : ByteArray)) ++ a5) ++ (⟨#[32]⟩ : ByteArray)) ++ a6) ++ (⟨#[32]⟩ : ByteArray))), (38, pt a4 5), (44, pt a4 6)] (bm 13 131) (by kernel_rfl) (by kernel_rfl) ?_
  refine ED.Y hN hF hC 2 9 (bm 13 135) (by kernel_rfl) (by kernel_rfl) rfl (fun _ _ _ hS => YO.loadBox hS 1 rfl 21 5 1 (ib a0.f5) 39 (by kernel_rfl) (by kernel_rfl) (by kernel_rfl) (by kernel_rfl)) ?_
  refine ED.quick hN hF hC [3] [37, 40, 44] 8 [(37, .string (((((((((a2 ++ (⟨#[32]⟩ : ByteArray)) ++ a3) ++ (⟨#[32]⟩ : ByteArray)) ++ (a1.getD (IntKind.i64.wrap (a0.f2 - 1)).toNat ⟨#[]⟩)) ++ (⟨#[32]⟩ : ByteArray)) ++ a5) ++ (⟨#[32]⟩ : ByteArray)) ++ a6) ++ (⟨#[32]⟩ : ByteArray))), (40, ia (IntKind.i64.wrap a0.f5)), (44, pt a4 6)] (bm 13 143) (by kernel_rfl) (by kernel_rfl) ?_
  refine ED.Y hN hF hC 8 7 (bm 13 399) (by kernel_rfl) (by kernel_rfl) rfl (fun _ _ _ hS => YO.loadBox hS 1 rfl 21 6 1 (ib a0.f6) 45 (by kernel_rfl) (by kernel_rfl) (by kernel_rfl) (by kernel_rfl)) ?_
  refine ED.quick hN hF hC [9] [37, 40, 46] 6 [(37, .string (((((((((a2 ++ (⟨#[32]⟩ : ByteArray)) ++ a3) ++ (⟨#[32]⟩ : ByteArray)) ++ (a1.getD (IntKind.i64.wrap (a0.f2 - 1)).toNat ⟨#[]⟩)) ++ (⟨#[32]⟩ : ByteArray)) ++ a5) ++ (⟨#[32]⟩ : ByteArray)) ++ a6) ++ (⟨#[32]⟩ : ByteArray))), (40, ia (IntKind.i64.wrap a0.f5)), (46, ia (IntKind.i64.wrap a0.f6))] (bm 13 911) (by kernel_rfl) (by kernel_rfl) ?_
  have hq := confidantref5_Decimal.calls d4 hS
  refine ED.one 4 5 (bm 13 927) (by kernel_rfl) (by kernel_rfl) (by kernel_rfl) (EO.callD 55 [ia (IntKind.i64.wrap a0.f5)] _ 41 (by kernel_rfl) (by kernel_rfl) (by kernel_rfl) hq ?_)
  rintro v w ⟨rfl, hS⟩
  have hC := hC.again ⟨_, _, hS⟩
  refine ⟨hC, ?_⟩
  refine ED.Y hN hF hC 5 4 (bm 13 959) (by kernel_rfl) (by kernel_rfl) rfl (fun _ _ _ hS => YO.strCat (((((((((a2 ++ (⟨#[32]⟩ : ByteArray)) ++ a3) ++ (⟨#[32]⟩ : ByteArray)) ++ (a1.getD (IntKind.i64.wrap (a0.f2 - 1)).toNat ⟨#[]⟩)) ++ (⟨#[32]⟩ : ByteArray)) ++ a5) ++ (⟨#[32]⟩ : ByteArray)) ++ a6) ++ (⟨#[32]⟩ : ByteArray)) a7 42 (by kernel_rfl) (by kernel_rfl) (by kernel_rfl) c6) ?_
  refine ED.Y hN hF hC 6 3 (bm 13 1023) (by kernel_rfl) (by kernel_rfl) rfl (fun _ _ _ hS => YO.strCat ((((((((((a2 ++ (⟨#[32]⟩ : ByteArray)) ++ a3) ++ (⟨#[32]⟩ : ByteArray)) ++ (a1.getD (IntKind.i64.wrap (a0.f2 - 1)).toNat ⟨#[]⟩)) ++ (⟨#[32]⟩ : ByteArray)) ++ a5) ++ (⟨#[32]⟩ : ByteArray)) ++ a6) ++ (⟨#[32]⟩ : ByteArray)) ++ a7) (⟨#[32]⟩ : ByteArray) 43 (by kernel_rfl) (by kernel_rfl) (by kernel_rfl) c7) ?_
  have hq := confidantref5_Decimal.calls d5 hS
  refine ED.one 10 2 (bm 13 2047) (by kernel_rfl) (by kernel_rfl) (by kernel_rfl) (EO.callD 55 [ia (IntKind.i64.wrap a0.f6)] _ 47 (by kernel_rfl) (by kernel_rfl) (by kernel_rfl) hq ?_)
  rintro v w ⟨rfl, hS⟩
  have hC := hC.again ⟨_, _, hS⟩
  refine ⟨hC, ?_⟩
  refine ED.Y hN hF hC 11 1 (bm 13 4095) (by kernel_rfl) (by kernel_rfl) rfl (fun _ _ _ hS => YO.strCat (((((((((((a2 ++ (⟨#[32]⟩ : ByteArray)) ++ a3) ++ (⟨#[32]⟩ : ByteArray)) ++ (a1.getD (IntKind.i64.wrap (a0.f2 - 1)).toNat ⟨#[]⟩)) ++ (⟨#[32]⟩ : ByteArray)) ++ a5) ++ (⟨#[32]⟩ : ByteArray)) ++ a6) ++ (⟨#[32]⟩ : ByteArray)) ++ a7) ++ (⟨#[32]⟩ : ByteArray)) a9 48 (by kernel_rfl) (by kernel_rfl) (by kernel_rfl) c8) ?_
  refine ED.quick hN hF hC [12] [2] 0 [(2, .string ((((((((((((a2 ++ (⟨#[32]⟩ : ByteArray)) ++ a3) ++ (⟨#[32]⟩ : ByteArray)) ++ (a1.getD (IntKind.i64.wrap (a0.f2 - 1)).toNat ⟨#[]⟩)) ++ (⟨#[32]⟩ : ByteArray)) ++ a5) ++ (⟨#[32]⟩ : ByteArray)) ++ a6) ++ (⟨#[32]⟩ : ByteArray)) ++ a7) ++ (⟨#[32]⟩ : ByteArray)) ++ a9))] (bm 13 8191) (by kernel_rfl) (by kernel_rfl) ?_
  refine ED.done (by kernel_rfl) ?_
  refine EQ.code ?_
  refine EW.ret (by kernel_rfl) ?_
  obtain rfl := Option.some.inj H
  exact EQ.leave (.string ((((((((((((a2 ++ (⟨#[32]⟩ : ByteArray)) ++ a3) ++ (⟨#[32]⟩ : ByteArray)) ++ (a1.getD (IntKind.i64.wrap (a0.f2 - 1)).toNat ⟨#[]⟩)) ++ (⟨#[32]⟩ : ByteArray)) ++ a5) ++ (⟨#[32]⟩ : ByteArray)) ++ a6) ++ (⟨#[32]⟩ : ByteArray)) ++ a7) ++ (⟨#[32]⟩ : ByteArray)) ++ a9)) (by kernel_rfl) ⟨_, rfl, rfl, (hS.re [] [0, 0] rfl (sub_self))⟩
 rw [if_neg b2] at H
 refine EW.sq (by kernel_rfl) ?_
 refine EW.rg (by kernel_rfl) ?_
 refine EL.quick 1 [2] [(2, .string (⟨#[]⟩ : ByteArray))] (by kernel_rfl) ?_
 refine EL.done (by kernel_rfl) ?_
 refine EQ.code ?_
 refine EW.ret (by kernel_rfl) ?_
 refine EQ.ret ?_
 obtain rfl := Option.some.inj H
 exact EQ.leave (.string (⟨#[]⟩ : ByteArray)) (by kernel_rfl) ⟨_, rfl, rfl, (hS.re [] [0] rfl (sub_self))⟩

end Go.Proofs.YtocdpimpkifdmaaDoor.G
