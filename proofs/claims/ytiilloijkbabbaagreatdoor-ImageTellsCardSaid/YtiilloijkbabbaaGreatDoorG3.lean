import Derived.Test.YtiilloijkbabbaaGreatDoorProg
import Derived.Test.YtiilloijkbabbaaGreatDoorFwShort
import Derived.Test.YtiilloijkbabbaaGreatDoorFwOpen
import Derived.Test.YtiilloijkbabbaaGreatDoorFwStr
import Derived.Test.YtiilloijkbabbaaGreatDoorG0
import Derived.Test.YtiilloijkbabbaaGreatDoorG2
namespace Go.Proofs.YtiilloijkbabbaaGreatDoor.G
open Go Go.Fw Go.RowKit Go.Proofs
set_option linter.unusedVariables false
set_option linter.unusedSimpArgs false

/-! ### (*confidant/pack.Reader).Left: function 18 -/
def pack_Reader_Left.f (K : Nat) (a0 : List Int) (a4 : Int) : Option (List Int × Int × Int) := some (a0, a4, (a0.length : Int))
set_option maxRecDepth 100000 in
theorem pack_Reader_Left.calls {K : Nat} {a0 : List Int} {a4 : Int} {a1 : Nat} {a2 : Option Addr} {a3 : Nat} {a5 : List Int} {a8 : Int} {a9 : Int} {B w : World} {os : List Ass} {rs : List Ro} (H : pack_Reader_Left.f K a0 a4 = some (a5, a8, a9)) (hS : St B w (Ass.box 80 a1 [sv a2 a3 a0, ia a4] :: os) (Ro.sl (Kd.int .u8) a2 a3 a0 :: rs)) :
  Calls Tryz.prog 18 [pt a1 0].toArray w (fun en w' => ∃ v, en = .returned v ∧ ∃ a6 : Option Addr, ∃ a7 : Nat, v = ia a9 ∧ St B w' (Ass.box 80 a1 [sv a6 a7 a5, ia a8] :: os) (Ro.sl (Kd.int .u8) a6 a7 a5 :: Ro.sl (Kd.int .u8) a2 a3 a0 :: rs)) := by
 unfold pack_Reader_Left.f at H
 refine calls_of_EW (args := [pt a1 0]) (c := Cd18) 8 Tryz.func18 (by kernel_rfl) (by kernel_rfl) (by kernel_rfl) ?_
 refine EW.sq (by kernel_rfl) ?_
 refine EW.rg (by kernel_rfl) ?_
 refine EL.quick 1 [0] [(0, pt a1 0)] (by kernel_rfl) ?_
 refine EL.done (by kernel_rfl) ?_
 refine EQ.code ?_
 refine EW.sq (by kernel_rfl) ?_
 refine EW.rg (by kernel_rfl) ?_
 refine EL.quick 3 [5] [(5, pt a1 0)] (by kernel_rfl) ?_
 refine EL.of (EO.Y (YO.loadBox hS 0 rfl 22 0 1 (sv a2 a3 a0) 6 (by kernel_rfl) (by kernel_rfl) (by kernel_rfl) (by kernel_rfl)) ?_)
 refine EL.quick 2 [2] [(2, ia (a0.length : Int))] (by kernel_rfl) ?_
 refine EL.done (by kernel_rfl) ?_
 refine EQ.code ?_
 refine EW.ret (by kernel_rfl) ?_
 simp only [sv, Option.some.injEq, Prod.mk.injEq] at H
 obtain ⟨rfl, rfl, rfl⟩ := H
 exact EQ.leave (ia (a0.length : Int)) (by kernel_rfl) ⟨_, rfl, a2, a3, rfl, (hS.re [0] [] rfl (sub_cons 0 rfl (sub_self)))⟩

/-! ### confidant/confidantlaw7.some: function 20 -/
def confidantlaw7_some.l0 (K : Nat) (a1 : List Int) (a0 : List ByteArray) : Nat → ByteArray → Int → Option ByteArray
 | 0, _, _ => none
 | n + 1, a4, a2 => if a2 < (a1.length : Int) then (if 0 ≤ a2 then (if (a0.length : Int) = 0 then none else (if 0 ≤ (Int.tmod (IntKind.i64.wrap (a1.getD a2.toNat 0)) (a0.length : Int)) then (if (Int.tmod (IntKind.i64.wrap (a1.getD a2.toNat 0)) (a0.length : Int)) < (a0.length : Int) then (if a4.size + (a0.getD (Int.tmod (IntKind.i64.wrap (a1.getD a2.toNat 0)) (a0.length : Int)).toNat ⟨#[]⟩).size ≤ 9223372036854775807 then (if (a4 ++ (a0.getD (Int.tmod (IntKind.i64.wrap (a1.getD a2.toNat 0)) (a0.length : Int)).toNat ⟨#[]⟩)).size + (⟨#[10]⟩ : ByteArray).size ≤ 9223372036854775807 then (confidantlaw7_some.l0 K a1 a0 n ((a4 ++ (a0.getD (Int.tmod (IntKind.i64.wrap (a1.getD a2.toNat 0)) (a0.length : Int)).toNat ⟨#[]⟩)) ++ (⟨#[10]⟩ : ByteArray)) (IntKind.i64.wrap (a2 + 1))) else none) else none) else none) else none)) else none) else (some a4)
def confidantlaw7_some.f (K : Nat) (a1 : List Int) : Option ByteArray := lt ([(⟨#[102, 117, 110, 99]⟩ : ByteArray), (⟨#[102, 117, 110, 99]⟩ : ByteArray), (⟨#[112, 117, 115, 104, 32, 49]⟩ : ByteArray), (⟨#[114, 101, 116]⟩ : ByteArray), (⟨#[97, 100, 100]⟩ : ByteArray), (⟨#[106, 117, 109, 112, 32, 48]⟩ : ByteArray), (⟨#[102, 111, 114, 107, 32, 49]⟩ : ByteArray), (⟨#[112, 117, 115, 104]⟩ : ByteArray), (⟨#[114, 101, 116, 32, 49]⟩ : ByteArray), (⟨#[]⟩ : ByteArray), (⟨#[120]⟩ : ByteArray), (⟨#[102, 97, 105, 108, 32, 45, 51]⟩ : ByteArray), (⟨#[102, 117, 110, 99, 32, 49]⟩ : ByteArray), (⟨#[108, 111, 97, 100, 32, 51]⟩ : ByteArray), (⟨#[112, 117, 115, 104, 32, 57, 57, 57, 57, 57, 57, 57, 57, 57, 57, 57]⟩ : ByteArray)] : List ByteArray) fun a0 => (confidantlaw7_some.l0 K a1 a0 K (⟨#[]⟩ : ByteArray) 0)
set_option maxRecDepth 100000 in
theorem confidantlaw7_some.calls {K : Nat} {a1 : List Int} {a6 : Option Addr} {a3 : Nat} {b0 : ByteArray} {B w : World} {os : List Ass} {rs : List Ro} (H : confidantlaw7_some.f K a1 = some b0) (hS : St B w (os) (Ro.sl (Kd.int .u8) a6 a3 a1 :: rs)) :
  Calls Tryz.prog 20 [sv a6 a3 a1].toArray w (fun en w' => ∃ v, en = .returned v ∧ v = .string b0 ∧ St B w' (os) (Ro.sl (Kd.int .u8) a6 a3 a1 :: rs)) := by
 unfold confidantlaw7_some.f at H
 refine calls_of_EW (args := [sv a6 a3 a1]) (c := Cd20) 28 Tryz.func20 (by kernel_rfl) (by kernel_rfl) (by kernel_rfl) ?_
 refine EW.sq (by kernel_rfl) ?_
 refine EW.rg (by kernel_rfl) ?_
 refine EL.quick 1 [0] [(0, sv a6 a3 a1)] (by kernel_rfl) ?_
 refine EL.done (by kernel_rfl) ?_
 refine EQ.code ?_
 refine EW.sq (by kernel_rfl) ?_
 refine EW.rg (by kernel_rfl) ?_
 obtain ⟨a0, b3, H⟩ := lt_out H
 refine EL.of (EO.lit hS Kd.str 9 28 15 #[(0, .string (⟨#[102, 117, 110, 99]⟩ : ByteArray)), (1, .string (⟨#[102, 117, 110, 99]⟩ : ByteArray)), (2, .string (⟨#[112, 117, 115, 104, 32, 49]⟩ : ByteArray)), (3, .string (⟨#[114, 101, 116]⟩ : ByteArray)), (4, .string (⟨#[97, 100, 100]⟩ : ByteArray)), (5, .string (⟨#[106, 117, 109, 112, 32, 48]⟩ : ByteArray)), (6, .string (⟨#[102, 111, 114, 107, 32, 49]⟩ : ByteArray)), (7, .string (⟨#[112, 117, 115, 104]⟩ : ByteArray)), (8, .string (⟨#[114, 101, 116, 32, 49]⟩ : ByteArray)), (9, .string (⟨#[]⟩ : ByteArray)), (10, .string (⟨#[120]⟩ : ByteArray)), (11, .string (⟨#[102, 97, 105, 108, 32, 45, 51]⟩ : ByteArray)), (12, .string (⟨#[102, 117, 110, 99, 32, 49]⟩ : ByteArray)), (13, .string (⟨#[108, 111, 97, 100, 32, 51]⟩ : ByteArray)), (14, .string (⟨#[112, 117, 115, 104, 32, 57, 57, 57, 57, 57, 57, 57, 57, 57, 57, 57]⟩ : ByteArray))] [.string (⟨#[102, 117, 110, 99]⟩ : ByteArray), .string (⟨#[102, 117, 110, 99]⟩ : ByteArray), .string (⟨#[112, 117, 115, 104, 32, 49]⟩ : ByteArray), .string (⟨#[114, 101, 116]⟩ : ByteArray), .string (⟨#[97, 100, 100]⟩ : ByteArray), .string (⟨#[106, 117, 109, 112, 32, 48]⟩ : ByteArray), .string (⟨#[102, 111, 114, 107, 32, 49]⟩ : ByteArray), .string (⟨#[112, 117, 115, 104]⟩ : ByteArray), .string (⟨#[114, 101, 116, 32, 49]⟩ : ByteArray), .string (⟨#[]⟩ : ByteArray), .string (⟨#[120]⟩ : ByteArray), .string (⟨#[102, 97, 105, 108, 32, 45, 51]⟩ : ByteArray), .string (⟨#[102, 117, 110, 99, 32, 49]⟩ : ByteArray), .string (⟨#[108, 111, 97, 100, 32, 51]⟩ : ByteArray), .string (⟨#[112, 117, 115, 104, 32, 57, 57, 57, 57, 57, 57, 57, 57, 57, 57, 57]⟩ : ByteArray)] a0 6 (by kernel_rfl) (by kernel_rfl) (by kernel_rfl) (fun _ => (by kernel_rfl)) (by rw [b3]; rfl) (by kernel_rfl) (fun w G hr => (by rw [b3]; exact ⟨[.string (⟨#[102, 117, 110, 99]⟩ : ByteArray)], [.string (⟨#[102, 117, 110, 99]⟩ : ByteArray), .string (⟨#[112, 117, 115, 104, 32, 49]⟩ : ByteArray), .string (⟨#[114, 101, 116]⟩ : ByteArray), .string (⟨#[97, 100, 100]⟩ : ByteArray), .string (⟨#[106, 117, 109, 112, 32, 48]⟩ : ByteArray), .string (⟨#[102, 111, 114, 107, 32, 49]⟩ : ByteArray), .string (⟨#[112, 117, 115, 104]⟩ : ByteArray), .string (⟨#[114, 101, 116, 32, 49]⟩ : ByteArray), .string (⟨#[]⟩ : ByteArray), .string (⟨#[120]⟩ : ByteArray), .string (⟨#[102, 97, 105, 108, 32, 45, 51]⟩ : ByteArray), .string (⟨#[102, 117, 110, 99, 32, 49]⟩ : ByteArray), .string (⟨#[108, 111, 97, 100, 32, 51]⟩ : ByteArray), .string (⟨#[112, 117, 115, 104, 32, 57, 57, 57, 57, 57, 57, 57, 57, 57, 57, 57]⟩ : ByteArray)], rfl, rfl, ⟨[.string (⟨#[102, 117, 110, 99]⟩ : ByteArray)], [.string (⟨#[112, 117, 115, 104, 32, 49]⟩ : ByteArray), .string (⟨#[114, 101, 116]⟩ : ByteArray), .string (⟨#[97, 100, 100]⟩ : ByteArray), .string (⟨#[106, 117, 109, 112, 32, 48]⟩ : ByteArray), .string (⟨#[102, 111, 114, 107, 32, 49]⟩ : ByteArray), .string (⟨#[112, 117, 115, 104]⟩ : ByteArray), .string (⟨#[114, 101, 116, 32, 49]⟩ : ByteArray), .string (⟨#[]⟩ : ByteArray), .string (⟨#[120]⟩ : ByteArray), .string (⟨#[102, 97, 105, 108, 32, 45, 51]⟩ : ByteArray), .string (⟨#[102, 117, 110, 99, 32, 49]⟩ : ByteArray), .string (⟨#[108, 111, 97, 100, 32, 51]⟩ : ByteArray), .string (⟨#[112, 117, 115, 104, 32, 57, 57, 57, 57, 57, 57, 57, 57, 57, 57, 57]⟩ : ByteArray)], rfl, rfl, ⟨[.string (⟨#[112, 117, 115, 104, 32, 49]⟩ : ByteArray)], [.string (⟨#[114, 101, 116]⟩ : ByteArray), .string (⟨#[97, 100, 100]⟩ : ByteArray), .string (⟨#[106, 117, 109, 112, 32, 48]⟩ : ByteArray), .string (⟨#[102, 111, 114, 107, 32, 49]⟩ : ByteArray), .string (⟨#[112, 117, 115, 104]⟩ : ByteArray), .string (⟨#[114, 101, 116, 32, 49]⟩ : ByteArray), .string (⟨#[]⟩ : ByteArray), .string (⟨#[120]⟩ : ByteArray), .string (⟨#[102, 97, 105, 108, 32, 45, 51]⟩ : ByteArray), .string (⟨#[102, 117, 110, 99, 32, 49]⟩ : ByteArray), .string (⟨#[108, 111, 97, 100, 32, 51]⟩ : ByteArray), .string (⟨#[112, 117, 115, 104, 32, 57, 57, 57, 57, 57, 57, 57, 57, 57, 57, 57]⟩ : ByteArray)], rfl, rfl, ⟨[.string (⟨#[114, 101, 116]⟩ : ByteArray)], [.string (⟨#[97, 100, 100]⟩ : ByteArray), .string (⟨#[106, 117, 109, 112, 32, 48]⟩ : ByteArray), .string (⟨#[102, 111, 114, 107, 32, 49]⟩ : ByteArray), .string (⟨#[112, 117, 115, 104]⟩ : ByteArray), .string (⟨#[114, 101, 116, 32, 49]⟩ : ByteArray), .string (⟨#[]⟩ : ByteArray), .string (⟨#[120]⟩ : ByteArray), .string (⟨#[102, 97, 105, 108, 32, 45, 51]⟩ : ByteArray), .string (⟨#[102, 117, 110, 99, 32, 49]⟩ : ByteArray), .string (⟨#[108, 111, 97, 100, 32, 51]⟩ : ByteArray), .string (⟨#[112, 117, 115, 104, 32, 57, 57, 57, 57, 57, 57, 57, 57, 57, 57, 57]⟩ : ByteArray)], rfl, rfl, ⟨[.string (⟨#[97, 100, 100]⟩ : ByteArray)], [.string (⟨#[106, 117, 109, 112, 32, 48]⟩ : ByteArray), .string (⟨#[102, 111, 114, 107, 32, 49]⟩ : ByteArray), .string (⟨#[112, 117, 115, 104]⟩ : ByteArray), .string (⟨#[114, 101, 116, 32, 49]⟩ : ByteArray), .string (⟨#[]⟩ : ByteArray), .string (⟨#[120]⟩ : ByteArray), .string (⟨#[102, 97, 105, 108, 32, 45, 51]⟩ : ByteArray), .string (⟨#[102, 117, 110, 99, 32, 49]⟩ : ByteArray), .string (⟨#[108, 111, 97, 100, 32, 51]⟩ : ByteArray), .string (⟨#[112, 117, 115, 104, 32, 57, 57, 57, 57, 57, 57, 57, 57, 57, 57, 57]⟩ : ByteArray)], rfl, rfl, ⟨[.string (⟨#[106, 117, 109, 112, 32, 48]⟩ : ByteArray)], [.string (⟨#[102, 111, 114, 107, 32, 49]⟩ : ByteArray), .string (⟨#[112, 117, 115, 104]⟩ : ByteArray), .string (⟨#[114, 101, 116, 32, 49]⟩ : ByteArray), .string (⟨#[]⟩ : ByteArray), .string (⟨#[120]⟩ : ByteArray), .string (⟨#[102, 97, 105, 108, 32, 45, 51]⟩ : ByteArray), .string (⟨#[102, 117, 110, 99, 32, 49]⟩ : ByteArray), .string (⟨#[108, 111, 97, 100, 32, 51]⟩ : ByteArray), .string (⟨#[112, 117, 115, 104, 32, 57, 57, 57, 57, 57, 57, 57, 57, 57, 57, 57]⟩ : ByteArray)], rfl, rfl, ⟨[.string (⟨#[102, 111, 114, 107, 32, 49]⟩ : ByteArray)], [.string (⟨#[112, 117, 115, 104]⟩ : ByteArray), .string (⟨#[114, 101, 116, 32, 49]⟩ : ByteArray), .string (⟨#[]⟩ : ByteArray), .string (⟨#[120]⟩ : ByteArray), .string (⟨#[102, 97, 105, 108, 32, 45, 51]⟩ : ByteArray), .string (⟨#[102, 117, 110, 99, 32, 49]⟩ : ByteArray), .string (⟨#[108, 111, 97, 100, 32, 51]⟩ : ByteArray), .string (⟨#[112, 117, 115, 104, 32, 57, 57, 57, 57, 57, 57, 57, 57, 57, 57, 57]⟩ : ByteArray)], rfl, rfl, ⟨[.string (⟨#[112, 117, 115, 104]⟩ : ByteArray)], [.string (⟨#[114, 101, 116, 32, 49]⟩ : ByteArray), .string (⟨#[]⟩ : ByteArray), .string (⟨#[120]⟩ : ByteArray), .string (⟨#[102, 97, 105, 108, 32, 45, 51]⟩ : ByteArray), .string (⟨#[102, 117, 110, 99, 32, 49]⟩ : ByteArray), .string (⟨#[108, 111, 97, 100, 32, 51]⟩ : ByteArray), .string (⟨#[112, 117, 115, 104, 32, 57, 57, 57, 57, 57, 57, 57, 57, 57, 57, 57]⟩ : ByteArray)], rfl, rfl, ⟨[.string (⟨#[114, 101, 116, 32, 49]⟩ : ByteArray)], [.string (⟨#[]⟩ : ByteArray), .string (⟨#[120]⟩ : ByteArray), .string (⟨#[102, 97, 105, 108, 32, 45, 51]⟩ : ByteArray), .string (⟨#[102, 117, 110, 99, 32, 49]⟩ : ByteArray), .string (⟨#[108, 111, 97, 100, 32, 51]⟩ : ByteArray), .string (⟨#[112, 117, 115, 104, 32, 57, 57, 57, 57, 57, 57, 57, 57, 57, 57, 57]⟩ : ByteArray)], rfl, rfl, ⟨[.string (⟨#[]⟩ : ByteArray)], [.string (⟨#[120]⟩ : ByteArray), .string (⟨#[102, 97, 105, 108, 32, 45, 51]⟩ : ByteArray), .string (⟨#[102, 117, 110, 99, 32, 49]⟩ : ByteArray), .string (⟨#[108, 111, 97, 100, 32, 51]⟩ : ByteArray), .string (⟨#[112, 117, 115, 104, 32, 57, 57, 57, 57, 57, 57, 57, 57, 57, 57, 57]⟩ : ByteArray)], rfl, rfl, ⟨[.string (⟨#[120]⟩ : ByteArray)], [.string (⟨#[102, 97, 105, 108, 32, 45, 51]⟩ : ByteArray), .string (⟨#[102, 117, 110, 99, 32, 49]⟩ : ByteArray), .string (⟨#[108, 111, 97, 100, 32, 51]⟩ : ByteArray), .string (⟨#[112, 117, 115, 104, 32, 57, 57, 57, 57, 57, 57, 57, 57, 57, 57, 57]⟩ : ByteArray)], rfl, rfl, ⟨[.string (⟨#[102, 97, 105, 108, 32, 45, 51]⟩ : ByteArray)], [.string (⟨#[102, 117, 110, 99, 32, 49]⟩ : ByteArray), .string (⟨#[108, 111, 97, 100, 32, 51]⟩ : ByteArray), .string (⟨#[112, 117, 115, 104, 32, 57, 57, 57, 57, 57, 57, 57, 57, 57, 57, 57]⟩ : ByteArray)], rfl, rfl, ⟨[.string (⟨#[102, 117, 110, 99, 32, 49]⟩ : ByteArray)], [.string (⟨#[108, 111, 97, 100, 32, 51]⟩ : ByteArray), .string (⟨#[112, 117, 115, 104, 32, 57, 57, 57, 57, 57, 57, 57, 57, 57, 57, 57]⟩ : ByteArray)], rfl, rfl, ⟨[.string (⟨#[108, 111, 97, 100, 32, 51]⟩ : ByteArray)], [.string (⟨#[112, 117, 115, 104, 32, 57, 57, 57, 57, 57, 57, 57, 57, 57, 57, 57]⟩ : ByteArray)], rfl, rfl, ⟨[.string (⟨#[112, 117, 115, 104, 32, 57, 57, 57, 57, 57, 57, 57, 57, 57, 57, 57]⟩ : ByteArray)], [], rfl, rfl, rfl⟩⟩⟩⟩⟩⟩⟩⟩⟩⟩⟩⟩⟩⟩⟩)) ?_)
 intro a5 w hS
 refine EL.quick 1 [0, 3] [(0, sv a6 a3 a1), (3, sv (some ⟨a5, 0, none⟩) 15 a0)] (by kernel_rfl) ?_
 refine EL.done (by kernel_rfl) ?_
 refine EQ.code ?_
 refine EW.sq (by kernel_rfl) ?_
 refine EW.rg (by kernel_rfl) ?_
 refine EL.quick 1 [0, 3, 4] [(0, sv a6 a3 a1), (3, sv (some ⟨a5, 0, none⟩) 15 a0), (4, .string (⟨#[]⟩ : ByteArray))] (by kernel_rfl) ?_
 refine EL.done (by kernel_rfl) ?_
 refine EQ.code ?_
 refine EW.sq (by kernel_rfl) ?_
 refine EW.sq (by kernel_rfl) ?_
 refine EW.rg (by kernel_rfl) ?_
 refine EL.quick 1 [0, 3, 4, 5] [(0, sv a6 a3 a1), (3, sv (some ⟨a5, 0, none⟩) 15 a0), (4, .string (⟨#[]⟩ : ByteArray)), (5, ia 0)] (by kernel_rfl) ?_
 refine EL.done (by kernel_rfl) ?_
 refine EQ.code ?_
 refine EW.bl 0 (by kernel_rfl) ?_
 refine EW.lp (fun n a w => ∃ a4 : ByteArray, ∃ a2 : Int, Sat 28 [(0, sv a6 a3 a1), (3, sv (some ⟨a5, 0, none⟩) 15 a0), (4, .string a4), (5, ia a2)] a ∧ St B w (Ass.own 9 Kd.str (some ⟨a5, 0, none⟩) 15 a0 :: os) (Ro.sl (Kd.int .u8) a6 a3 a1 :: rs) ∧ confidantlaw7_some.l0 K a1 a0 n a4 a2 = some b0) K (by kernel_rfl) ?_ (fun n a w hI => ?_)
 ·refine EQ.keep [0, 3, 4, 5] [(0, sv a6 a3 a1), (3, sv (some ⟨a5, 0, none⟩) 15 a0), (4, .string (⟨#[]⟩ : ByteArray)), (5, ia 0)] (by kernel_rfl) ?_
  exact fun a ha => ⟨(⟨#[]⟩ : ByteArray), 0, ha, (hS.re [0] [] rfl (sub_cons 0 rfl (sub_tail (sub_self)))), H⟩
 obtain ⟨a4, a2, ha, hS, H⟩ := hI
 obtain _ | n := n
 ·simp [confidantlaw7_some.l0] at H
 rw [confidantlaw7_some.l0.eq_2] at H
 refine EW.at ?_ a ha
 clear ha a
 refine EW.sq (by kernel_rfl) ?_
 refine EW.sq (by kernel_rfl) ?_
 refine EW.rg (by kernel_rfl) ?_
 refine EL.quick 4 [0, 3, 4, 5, 10] [(0, sv a6 a3 a1), (3, sv (some ⟨a5, 0, none⟩) 15 a0), (4, .string a4), (5, ia a2), (10, .bool (decide (a2 < (a1.length : Int))))] (by kernel_rfl) ?_
 refine EL.done (by kernel_rfl) ?_
 refine EQ.code ?_
 refine EW.cdP (a2 < (a1.length : Int)) (by kernel_rfl) (by kernel_rfl) (fun a8 => ?_) (fun a8 => ?_)
 ·rw [if_pos a8] at H
  refine EW.skip (by kernel_rfl) ?_
  refine EQ.code ?_
  refine EW.sq (by kernel_rfl) ?_
  refine EW.bl 1 (by kernel_rfl) ?_
  refine EW.rg (by kernel_rfl) ?_
  refine EL.quick 4 [0, 3, 5, 13, 14, 15, 16] [(0, sv a6 a3 a1), (3, sv (some ⟨a5, 0, none⟩) 15 a0), (5, ia a2), (13, .string a4), (14, sv (some ⟨a5, 0, none⟩) 15 a0), (15, sv a6 a3 a1), (16, ia a2)] (by kernel_rfl) ?_
  obtain ⟨a9, H⟩ := ite_in H
  obtain ⟨a7, rfl⟩ := St.rd_some hS (Rd.ro 0 rfl) a9 a8
  refine EL.of (EO.Y (YO.idx 22 1 a7 a1.length a3 .i64 a2 17 (by kernel_rfl) (by kernel_rfl) (by kernel_rfl) (by kernel_rfl) a9 a8) ?_)
  refine EL.of (EO.Y (YO.loadEl hS (Kd.int .u8) a7 a3 a1 (Rd.ro 0 rfl) 0 (encI .u8) encI_of a2 a9 a8 5 1 0 1 rfl (ig (a1.getD a2.toNat 0)) 18 (by kernel_rfl) (by kernel_rfl) (by kernel_rfl) (by kernel_rfl)) ?_)
  refine EL.quick 3 [0, 3, 5, 13, 14, 19, 21] [(0, sv (some a7) a3 a1), (3, sv (some ⟨a5, 0, none⟩) 15 a0), (5, ia a2), (13, .string a4), (14, sv (some ⟨a5, 0, none⟩) 15 a0), (19, ia (IntKind.i64.wrap (a1.getD a2.toNat 0))), (21, ia (a0.length : Int))] (by kernel_rfl) ?_
  obtain ⟨b4, H⟩ := ite_out H
  refine EL.of (EO.Y (YO.div .rem .i64 (IntKind.i64.wrap (a1.getD a2.toNat 0)) (a0.length : Int) (Int.tmod (IntKind.i64.wrap (a1.getD a2.toNat 0)) (a0.length : Int)) 22 (by kernel_rfl) (by kernel_rfl) (by kernel_rfl) b4 (by first | exact .inl ⟨rfl, rfl⟩ | exact .inr ⟨rfl, rfl⟩)) ?_)
  obtain ⟨b1, H⟩ := ite_in H
  obtain ⟨b2, H⟩ := ite_in H
  refine EL.of (EO.Y (YO.idx 28 1 ⟨a5, 0, none⟩ a0.length 15 .i64 (Int.tmod (IntKind.i64.wrap (a1.getD a2.toNat 0)) (a0.length : Int)) 23 (by kernel_rfl) (by kernel_rfl) (by kernel_rfl) (by kernel_rfl) b1 b2) ?_)
  refine EL.of (EO.Y (YO.loadEl hS Kd.str ⟨a5, 0, none⟩ 15 a0 (Rd.own 0 9 rfl) ⟨#[]⟩ encS encS_of (Int.tmod (IntKind.i64.wrap (a1.getD a2.toNat 0)) (a0.length : Int)) b1 b2 9 1 0 1 rfl (.string (a0.getD (Int.tmod (IntKind.i64.wrap (a1.getD a2.toNat 0)) (a0.length : Int)).toNat ⟨#[]⟩)) 24 (by kernel_rfl) (by kernel_rfl) (by kernel_rfl) (by kernel_rfl)) ?_)
  obtain ⟨b5, H⟩ := ite_in H
  refine EL.of (EO.Y (YO.strCat a4 (a0.getD (Int.tmod (IntKind.i64.wrap (a1.getD a2.toNat 0)) (a0.length : Int)).toNat ⟨#[]⟩) 25 (by kernel_rfl) (by kernel_rfl) (by kernel_rfl) b5) ?_)
  obtain ⟨b6, H⟩ := ite_in H
  refine EL.of (EO.Y (YO.strCat (a4 ++ (a0.getD (Int.tmod (IntKind.i64.wrap (a1.getD a2.toNat 0)) (a0.length : Int)).toNat ⟨#[]⟩)) (⟨#[10]⟩ : ByteArray) 26 (by kernel_rfl) (by kernel_rfl) (by kernel_rfl) b6) ?_)
  refine EL.quick 1 [0, 3, 4, 5] [(0, sv (some a7) a3 a1), (3, sv (some ⟨a5, 0, none⟩) 15 a0), (4, .string ((a4 ++ (a0.getD (Int.tmod (IntKind.i64.wrap (a1.getD a2.toNat 0)) (a0.length : Int)).toNat ⟨#[]⟩)) ++ (⟨#[10]⟩ : ByteArray))), (5, ia a2)] (by kernel_rfl) ?_
  refine EL.done (by kernel_rfl) ?_
  refine EQ.pop ?_
  refine EQ.code ?_
  refine EW.rg (by kernel_rfl) ?_
  refine EL.quick 3 [0, 3, 4, 5] [(0, sv (some a7) a3 a1), (3, sv (some ⟨a5, 0, none⟩) 15 a0), (4, .string ((a4 ++ (a0.getD (Int.tmod (IntKind.i64.wrap (a1.getD a2.toNat 0)) (a0.length : Int)).toNat ⟨#[]⟩)) ++ (⟨#[10]⟩ : ByteArray))), (5, ia (IntKind.i64.wrap (a2 + 1)))] (by kernel_rfl) ?_
  refine EL.done (by kernel_rfl) ?_
  refine EQ.to ?_
  refine EQ.keep [0, 3, 4, 5] [(0, sv (some a7) a3 a1), (3, sv (some ⟨a5, 0, none⟩) 15 a0), (4, .string ((a4 ++ (a0.getD (Int.tmod (IntKind.i64.wrap (a1.getD a2.toNat 0)) (a0.length : Int)).toNat ⟨#[]⟩)) ++ (⟨#[10]⟩ : ByteArray))), (5, ia (IntKind.i64.wrap (a2 + 1)))] (by kernel_rfl) ?_
  exact fun a ha => ⟨n, Nat.lt_succ_self n, ((a4 ++ (a0.getD (Int.tmod (IntKind.i64.wrap (a1.getD a2.toNat 0)) (a0.length : Int)).toNat ⟨#[]⟩)) ++ (⟨#[10]⟩ : ByteArray)), IntKind.i64.wrap (a2 + 1), ha, (hS.re [0] [] rfl (sub_cons 0 rfl (sub_tail (sub_self)))), H⟩
 rw [if_neg a8] at H
 refine EW.exit (id := 0) (by kernel_rfl) ?_
 refine EQ.exitCode ?_
 refine EQ.exitTo ?_
 refine EQ.exitHere ?_
 refine EQ.code ?_
 refine EW.sq (by kernel_rfl) ?_
 refine EW.rg (by kernel_rfl) ?_
 refine EL.quick 2 [2] [(2, .string a4)] (by kernel_rfl) ?_
 refine EL.done (by kernel_rfl) ?_
 refine EQ.code ?_
 refine EW.ret (by kernel_rfl) ?_
 obtain rfl := Option.some.inj H
 exact EQ.leave (.string a4) (by kernel_rfl) ⟨_, rfl, rfl, (hS.re [] [0] rfl (sub_self))⟩

/-! ### confidant/confidantref5.names: function 67 -/
def confidantref5_names.f (K : Nat)  : Option (List ByteArray) := lt ([(⟨#[112, 117, 115, 104]⟩ : ByteArray), (⟨#[112, 111, 112]⟩ : ByteArray), (⟨#[100, 117, 112]⟩ : ByteArray), (⟨#[97, 100, 100]⟩ : ByteArray), (⟨#[115, 117, 98]⟩ : ByteArray), (⟨#[109, 117, 108]⟩ : ByteArray), (⟨#[100, 105, 118]⟩ : ByteArray), (⟨#[108, 101, 115, 115]⟩ : ByteArray), (⟨#[101, 113]⟩ : ByteArray), (⟨#[106, 117, 109, 112]⟩ : ByteArray), (⟨#[106, 117, 109, 112, 122]⟩ : ByteArray), (⟨#[108, 111, 97, 100]⟩ : ByteArray), (⟨#[115, 116, 111, 114, 101]⟩ : ByteArray), (⟨#[108, 97, 98, 101, 108]⟩ : ByteArray), (⟨#[114, 97, 105, 115, 101]⟩ : ByteArray), (⟨#[105, 110, 112, 117, 116]⟩ : ByteArray), (⟨#[110, 101, 119]⟩ : ByteArray), (⟨#[114, 101, 97, 100]⟩ : ByteArray), (⟨#[119, 114, 105, 116, 101]⟩ : ByteArray), (⟨#[102, 111, 114, 107]⟩ : ByteArray), (⟨#[119, 97, 105, 116]⟩ : ByteArray), (⟨#[101, 109, 105, 116]⟩ : ByteArray), (⟨#[114, 101, 108, 101, 97, 115, 101]⟩ : ByteArray), (⟨#[116, 97, 107, 101]⟩ : ByteArray), (⟨#[114, 101, 116]⟩ : ByteArray), (⟨#[102, 97, 105, 108]⟩ : ByteArray)] : List ByteArray) fun a0 => (some a0)
set_option maxRecDepth 100000 in
theorem confidantref5_names.calls {K : Nat} {a2 : List ByteArray} {B w : World} {os : List Ass} {rs : List Ro} (H : confidantref5_names.f K = some a2) (hS : St B w (os) (rs)) :
  Calls Tryz.prog 67 [].toArray w (fun en w' => ∃ v, en = .returned v ∧ ∃ a3 : Option Addr, ∃ a4 : Nat, v = sv a3 a4 a2 ∧ St B w' (Ass.own 9 Kd.str a3 a4 a2 :: os) (rs)) := by
 unfold confidantref5_names.f at H
 refine calls_of_EW (args := []) (c := Cd67) 2 Tryz.func67 (by kernel_rfl) (by kernel_rfl) (by kernel_rfl) ?_
 refine EW.sq (by kernel_rfl) ?_
 refine EW.rg (by kernel_rfl) ?_
 refine EL.quick 1 [] [] (by kernel_rfl) ?_
 refine EL.done (by kernel_rfl) ?_
 refine EQ.code ?_
 refine EW.sq (by kernel_rfl) ?_
 refine EW.rg (by kernel_rfl) ?_
 obtain ⟨a0, a5, H⟩ := lt_out H
 refine EL.of (EO.lit hS Kd.str 9 28 26 #[(0, .string (⟨#[112, 117, 115, 104]⟩ : ByteArray)), (1, .string (⟨#[112, 111, 112]⟩ : ByteArray)), (2, .string (⟨#[100, 117, 112]⟩ : ByteArray)), (3, .string (⟨#[97, 100, 100]⟩ : ByteArray)), (4, .string (⟨#[115, 117, 98]⟩ : ByteArray)), (5, .string (⟨#[109, 117, 108]⟩ : ByteArray)), (6, .string (⟨#[100, 105, 118]⟩ : ByteArray)), (7, .string (⟨#[108, 101, 115, 115]⟩ : ByteArray)), (8, .string (⟨#[101, 113]⟩ : ByteArray)), (9, .string (⟨#[106, 117, 109, 112]⟩ : ByteArray)), (10, .string (⟨#[106, 117, 109, 112, 122]⟩ : ByteArray)), (11, .string (⟨#[108, 111, 97, 100]⟩ : ByteArray)), (12, .string (⟨#[115, 116, 111, 114, 101]⟩ : ByteArray)), (13, .string (⟨#[108, 97, 98, 101, 108]⟩ : ByteArray)), (14, .string (⟨#[114, 97, 105, 115, 101]⟩ : ByteArray)), (15, .string (⟨#[105, 110, 112, 117, 116]⟩ : ByteArray)), (16, .string (⟨#[110, 101, 119]⟩ : ByteArray)), (17, .string (⟨#[114, 101, 97, 100]⟩ : ByteArray)), (18, .string (⟨#[119, 114, 105, 116, 101]⟩ : ByteArray)), (19, .string (⟨#[102, 111, 114, 107]⟩ : ByteArray)), (20, .string (⟨#[119, 97, 105, 116]⟩ : ByteArray)), (21, .string (⟨#[101, 109, 105, 116]⟩ : ByteArray)), (22, .string (⟨#[114, 101, 108, 101, 97, 115, 101]⟩ : ByteArray)), (23, .string (⟨#[116, 97, 107, 101]⟩ : ByteArray)), (24, .string (⟨#[114, 101, 116]⟩ : ByteArray)), (25, .string (⟨#[102, 97, 105, 108]⟩ : ByteArray))] [.string (⟨#[112, 117, 115, 104]⟩ : ByteArray), .string (⟨#[112, 111, 112]⟩ : ByteArray), .string (⟨#[100, 117, 112]⟩ : ByteArray), .string (⟨#[97, 100, 100]⟩ : ByteArray), .string (⟨#[115, 117, 98]⟩ : ByteArray), .string (⟨#[109, 117, 108]⟩ : ByteArray), .string (⟨#[100, 105, 118]⟩ : ByteArray), .string (⟨#[108, 101, 115, 115]⟩ : ByteArray), .string (⟨#[101, 113]⟩ : ByteArray), .string (⟨#[106, 117, 109, 112]⟩ : ByteArray), .string (⟨#[106, 117, 109, 112, 122]⟩ : ByteArray), .string (⟨#[108, 111, 97, 100]⟩ : ByteArray), .string (⟨#[115, 116, 111, 114, 101]⟩ : ByteArray), .string (⟨#[108, 97, 98, 101, 108]⟩ : ByteArray), .string (⟨#[114, 97, 105, 115, 101]⟩ : ByteArray), .string (⟨#[105, 110, 112, 117, 116]⟩ : ByteArray), .string (⟨#[110, 101, 119]⟩ : ByteArray), .string (⟨#[114, 101, 97, 100]⟩ : ByteArray), .string (⟨#[119, 114, 105, 116, 101]⟩ : ByteArray), .string (⟨#[102, 111, 114, 107]⟩ : ByteArray), .string (⟨#[119, 97, 105, 116]⟩ : ByteArray), .string (⟨#[101, 109, 105, 116]⟩ : ByteArray), .string (⟨#[114, 101, 108, 101, 97, 115, 101]⟩ : ByteArray), .string (⟨#[116, 97, 107, 101]⟩ : ByteArray), .string (⟨#[114, 101, 116]⟩ : ByteArray), .string (⟨#[102, 97, 105, 108]⟩ : ByteArray)] a0 1 (by kernel_rfl) (by kernel_rfl) (by kernel_rfl) (fun _ => (by kernel_rfl)) (by rw [a5]; rfl) (by kernel_rfl) (fun w G hr => (by rw [a5]; exact ⟨[.string (⟨#[112, 117, 115, 104]⟩ : ByteArray)], [.string (⟨#[112, 111, 112]⟩ : ByteArray), .string (⟨#[100, 117, 112]⟩ : ByteArray), .string (⟨#[97, 100, 100]⟩ : ByteArray), .string (⟨#[115, 117, 98]⟩ : ByteArray), .string (⟨#[109, 117, 108]⟩ : ByteArray), .string (⟨#[100, 105, 118]⟩ : ByteArray), .string (⟨#[108, 101, 115, 115]⟩ : ByteArray), .string (⟨#[101, 113]⟩ : ByteArray), .string (⟨#[106, 117, 109, 112]⟩ : ByteArray), .string (⟨#[106, 117, 109, 112, 122]⟩ : ByteArray), .string (⟨#[108, 111, 97, 100]⟩ : ByteArray), .string (⟨#[115, 116, 111, 114, 101]⟩ : ByteArray), .string (⟨#[108, 97, 98, 101, 108]⟩ : ByteArray), .string (⟨#[114, 97, 105, 115, 101]⟩ : ByteArray), .string (⟨#[105, 110, 112, 117, 116]⟩ : ByteArray), .string (⟨#[110, 101, 119]⟩ : ByteArray), .string (⟨#[114, 101, 97, 100]⟩ : ByteArray), .string (⟨#[119, 114, 105, 116, 101]⟩ : ByteArray), .string (⟨#[102, 111, 114, 107]⟩ : ByteArray), .string (⟨#[119, 97, 105, 116]⟩ : ByteArray), .string (⟨#[101, 109, 105, 116]⟩ : ByteArray), .string (⟨#[114, 101, 108, 101, 97, 115, 101]⟩ : ByteArray), .string (⟨#[116, 97, 107, 101]⟩ : ByteArray), .string (⟨#[114, 101, 116]⟩ : ByteArray), .string (⟨#[102, 97, 105, 108]⟩ : ByteArray)], rfl, rfl, ⟨[.string (⟨#[112, 111, 112]⟩ : ByteArray)], [.string (⟨#[100, 117, 112]⟩ : ByteArray), .string (⟨#[97, 100, 100]⟩ : ByteArray), .string (⟨#[115, 117, 98]⟩ : ByteArray), .string (⟨#[109, 117, 108]⟩ : ByteArray), .string (⟨#[100, 105, 118]⟩ : ByteArray), .string (⟨#[108, 101, 115, 115]⟩ : ByteArray), .string (⟨#[101, 113]⟩ : ByteArray), .string (⟨#[106, 117, 109, 112]⟩ : ByteArray), .string (⟨#[106, 117, 109, 112, 122]⟩ : ByteArray), .string (⟨#[108, 111, 97, 100]⟩ : ByteArray), .string (⟨#[115, 116, 111, 114, 101]⟩ : ByteArray), .string (⟨#[108, 97, 98, 101, 108]⟩ : ByteArray), .string (⟨#[114, 97, 105, 115, 101]⟩ : ByteArray), .string (⟨#[105, 110, 112, 117, 116]⟩ : ByteArray), .string (⟨#[110, 101, 119]⟩ : ByteArray), .string (⟨#[114, 101, 97, 100]⟩ : ByteArray), .string (⟨#[119, 114, 105, 116, 101]⟩ : ByteArray), .string (⟨#[102, 111, 114, 107]⟩ : ByteArray), .string (⟨#[119, 97, 105, 116]⟩ : ByteArray), .string (⟨#[101, 109, 105, 116]⟩ : ByteArray), .string (⟨#[114, 101, 108, 101, 97, 115, 101]⟩ : ByteArray), .string (⟨#[116, 97, 107, 101]⟩ : ByteArray), .string (⟨#[114, 101, 116]⟩ : ByteArray), .string (⟨#[102, 97, 105, 108]⟩ : ByteArray)], rfl, rfl, ⟨[.string (⟨#[100, 117, 112]⟩ : ByteArray)], [.string (⟨#[97, 100, 100]⟩ : ByteArray), .string (⟨#[115, 117, 98]⟩ : ByteArray), .string (⟨#[109, 117, 108]⟩ : ByteArray), .string (⟨#[100, 105, 118]⟩ : ByteArray), .string (⟨#[108, 101, 115, 115]⟩ : ByteArray), .string (⟨#[101, 113]⟩ : ByteArray), .string (⟨#[106, 117, 109, 112]⟩ : ByteArray), .string (⟨#[106, 117, 109, 112, 122]⟩ : ByteArray), .string (⟨#[108, 111, 97, 100]⟩ : ByteArray), .string (⟨#[115, 116, 111, 114, 101]⟩ : ByteArray), .string (⟨#[108, 97, 98, 101, 108]⟩ : ByteArray), .string (⟨#[114, 97, 105, 115, 101]⟩ : ByteArray), .string (⟨#[105, 110, 112, 117, 116]⟩ : ByteArray), .string (⟨#[110, 101, 119]⟩ : ByteArray), .string (⟨#[114, 101, 97, 100]⟩ : ByteArray), .string (⟨#[119, 114, 105, 116, 101]⟩ : ByteArray), .string (⟨#[102, 111, 114, 107]⟩ : ByteArray), .string (⟨#[119, 97, 105, 116]⟩ : ByteArray), .string (⟨#[101, 109, 105, 116]⟩ : ByteArray), .string (⟨#[114, 101, 108, 101, 97, 115, 101]⟩ : ByteArray), .string (⟨#[116, 97, 107, 101]⟩ : ByteArray), .string (⟨#[114, 101, 116]⟩ : ByteArray), .string (⟨#[102, 97, 105, 108]⟩ : ByteArray)], rfl, rfl, ⟨[.string (⟨#[97, 100, 100]⟩ : ByteArray)], [.string (⟨#[115, 117, 98]⟩ : ByteArray), .string (⟨#[109, 117, 108]⟩ : ByteArray), .string (⟨#[100, 105, 118]⟩ : ByteArray), .string (⟨#[108, 101, 115, 115]⟩ : ByteArray), .string (⟨#[101, 113]⟩ : ByteArray), .string (⟨#[106, 117, 109, 112]⟩ : ByteArray), .string (⟨#[106, 117, 109, 112, 122]⟩ : ByteArray), .string (⟨#[108, 111, 97, 100]⟩ : ByteArray), .string (⟨#[115, 116, 111, 114, 101]⟩ : ByteArray), .string (⟨#[108, 97, 98, 101, 108]⟩ : ByteArray), .string (⟨#[114, 97, 105, 115, 101]⟩ : ByteArray), .string (⟨#[105, 110, 112, 117, 116]⟩ : ByteArray), .string (⟨#[110, 101, 119]⟩ : ByteArray), .string (⟨#[114, 101, 97, 100]⟩ : ByteArray), .string (⟨#[119, 114, 105, 116, 101]⟩ : ByteArray), .string (⟨#[102, 111, 114, 107]⟩ : ByteArray), .string (⟨#[119, 97, 105, 116]⟩ : ByteArray), .string (⟨#[101, 109, 105, 116]⟩ : ByteArray), .string (⟨#[114, 101, 108, 101, 97, 115, 101]⟩ : ByteArray), .string (⟨#[116, 97, 107, 101]⟩ : ByteArray), .string (⟨#[114, 101, 116]⟩ : ByteArray), .string (⟨#[102, 97, 105, 108]⟩ : ByteArray)], rfl, rfl, ⟨[.string (⟨#[115, 117, 98]⟩ : ByteArray)], [.string (⟨#[109, 117, 108]⟩ : ByteArray), .string (⟨#[100, 105, 118]⟩ : ByteArray), .string (⟨#[108, 101, 115, 115]⟩ : ByteArray), .string (⟨#[101, 113]⟩ : ByteArray), .string (⟨#[106, 117, 109, 112]⟩ : ByteArray), .string (⟨#[106, 117, 109, 112, 122]⟩ : ByteArray), .string (⟨#[108, 111, 97, 100]⟩ : ByteArray), .string (⟨#[115, 116, 111, 114, 101]⟩ : ByteArray), .string (⟨#[108, 97, 98, 101, 108]⟩ : ByteArray), .string (⟨#[114, 97, 105, 115, 101]⟩ : ByteArray), .string (⟨#[105, 110, 112, 117, 116]⟩ : ByteArray), .string (⟨#[110, 101, 119]⟩ : ByteArray), .string (⟨#[114, 101, 97, 100]⟩ : ByteArray), .string (⟨#[119, 114, 105, 116, 101]⟩ : ByteArray), .string (⟨#[102, 111, 114, 107]⟩ : ByteArray), .string (⟨#[119, 97, 105, 116]⟩ : ByteArray), .string (⟨#[101, 109, 105, 116]⟩ : ByteArray), .string (⟨#[114, 101, 108, 101, 97, 115, 101]⟩ : ByteArray), .string (⟨#[116, 97, 107, 101]⟩ : ByteArray), .string (⟨#[114, 101, 116]⟩ : ByteArray), .string (⟨#[102, 97, 105, 108]⟩ : ByteArray)], rfl, rfl, ⟨[.string (⟨#[109, 117, 108]⟩ : ByteArray)], [.string (⟨#[100, 105, 118]⟩ : ByteArray), .string (⟨#[108, 101, 115, 115]⟩ : ByteArray), .string (⟨#[101, 113]⟩ : ByteArray), .string (⟨#[106, 117, 109, 112]⟩ : ByteArray), .string (⟨#[106, 117, 109, 112, 122]⟩ : ByteArray), .string (⟨#[108, 111, 97, 100]⟩ : ByteArray), .string (⟨#[115, 116, 111, 114, 101]⟩ : ByteArray), .string (⟨#[108, 97, 98, 101, 108]⟩ : ByteArray), .string (⟨#[114, 97, 105, 115, 101]⟩ : ByteArray), .string (⟨#[105, 110, 112, 117, 116]⟩ : ByteArray), .string (⟨#[110, 101, 119]⟩ : ByteArray), .string (⟨#[114, 101, 97, 100]⟩ : ByteArray), .string (⟨#[119, 114, 105, 116, 101]⟩ : ByteArray), .string (⟨#[102, 111, 114, 107]⟩ : ByteArray), .string (⟨#[119, 97, 105, 116]⟩ : ByteArray), .string (⟨#[101, 109, 105, 116]⟩ : ByteArray), .string (⟨#[114, 101, 108, 101, 97, 115, 101]⟩ : ByteArray), .string (⟨#[116, 97, 107, 101]⟩ : ByteArray), .string (⟨#[114, 101, 116]⟩ : ByteArray), .string (⟨#[102, 97, 105, 108]⟩ : ByteArray)], rfl, rfl, ⟨[.string (⟨#[100, 105, 118]⟩ : ByteArray)], [.string (⟨#[108, 101, 115, 115]⟩ : ByteArray), .string (⟨#[101, 113]⟩ : ByteArray), .string (⟨#[106, 117, 109, 112]⟩ : ByteArray), .string (⟨#[106, 117, 109, 112, 122]⟩ : ByteArray), .string (⟨#[108, 111, 97, 100]⟩ : ByteArray), .string (⟨#[115, 116, 111, 114, 101]⟩ : ByteArray), .string (⟨#[108, 97, 98, 101, 108]⟩ : ByteArray), .string (⟨#[114, 97, 105, 115, 101]⟩ : ByteArray), .string (⟨#[105, 110, 112, 117, 116]⟩ : ByteArray), .string (⟨#[110, 101, 119]⟩ : ByteArray), .string (⟨#[114, 101, 97, 100]⟩ : ByteArray), .string (⟨#[119, 114, 105, 116, 101]⟩ : ByteArray), .string (⟨#[102, 111, 114, 107]⟩ : ByteArray), .string (⟨#[119, 97, 105, 116]⟩ : ByteArray), .string (⟨#[101, 109, 105, 116]⟩ : ByteArray), .string (⟨#[114, 101, 108, 101, 97, 115, 101]⟩ : ByteArray), .string (⟨#[116, 97, 107, 101]⟩ : ByteArray), .string (⟨#[114, 101, 116]⟩ : ByteArray), .string (⟨#[102, 97, 105, 108]⟩ : ByteArray)], rfl, rfl, ⟨[.string (⟨#[108, 101, 115, 115]⟩ : ByteArray)], [.string (⟨#[101, 113]⟩ : ByteArray), .string (⟨#[106, 117, 109, 112]⟩ : ByteArray), .string (⟨#[106, 117, 109, 112, 122]⟩ : ByteArray), .string (⟨#[108, 111, 97, 100]⟩ : ByteArray), .string (⟨#[115, 116, 111, 114, 101]⟩ : ByteArray), .string (⟨#[108, 97, 98, 101, 108]⟩ : ByteArray), .string (⟨#[114, 97, 105, 115, 101]⟩ : ByteArray), .string (⟨#[105, 110, 112, 117, 116]⟩ : ByteArray), .string (⟨#[110, 101, 119]⟩ : ByteArray), .string (⟨#[114, 101, 97, 100]⟩ : ByteArray), .string (⟨#[119, 114, 105, 116, 101]⟩ : ByteArray), .string (⟨#[102, 111, 114, 107]⟩ : ByteArray), .string (⟨#[119, 97, 105, 116]⟩ : ByteArray), .string (⟨#[101, 109, 105, 116]⟩ : ByteArray), .string (⟨#[114, 101, 108, 101, 97, 115, 101]⟩ : ByteArray), .string (⟨#[116, 97, 107, 101]⟩ : ByteArray), .string (⟨#[114, 101, 116]⟩ : ByteArray), .string (⟨#[102, 97, 105, 108]⟩ : ByteArray)], rfl, rfl, ⟨[.string (⟨#[101, 113]⟩ : ByteArray)], [.string (⟨#[106, 117, 109, 112]⟩ : ByteArray), .string (⟨#[106, 117, 109, 112, 122]⟩ : ByteArray), .string (⟨#[108, 111, 97, 100]⟩ : ByteArray), .string (⟨#[115, 116, 111, 114, 101]⟩ : ByteArray), .string (⟨#[108, 97, 98, 101, 108]⟩ : ByteArray), .string (⟨#[114, 97, 105, 115, 101]⟩ : ByteArray), .string (⟨#[105, 110, 112, 117, 116]⟩ : ByteArray), .string (⟨#[110, 101, 119]⟩ : ByteArray), .string (⟨#[114, 101, 97, 100]⟩ : ByteArray), .string (⟨#[119, 114, 105, 116, 101]⟩ : ByteArray), .string (⟨#[102, 111, 114, 107]⟩ : ByteArray), .string (⟨#[119, 97, 105, 116]⟩ : ByteArray), .string (⟨#[101, 109, 105, 116]⟩ : ByteArray), .string (⟨#[114, 101, 108, 101, 97, 115, 101]⟩ : ByteArray), .string (⟨#[116, 97, 107, 101]⟩ : ByteArray), .string (⟨#[114, 101, 116]⟩ : ByteArray), .string (⟨#[102, 97, 105, 108]⟩ : ByteArray)], rfl, rfl, ⟨[.string (⟨#[106, 117, 109, 112]⟩ : ByteArray)], [.string (⟨#[106, 117, 109, 112, 122]⟩ : ByteArray), .string (⟨#[108, 111, 97, 100]⟩ : ByteArray), .string (⟨#[115, 116, 111, 114, 101]⟩ : ByteArray), .string (⟨#[108, 97, 98, 101, 108]⟩ : ByteArray), .string (⟨#[114, 97, 105, 115, 101]⟩ : ByteArray), .string (⟨#[105, 110, 112, 117, 116]⟩ : ByteArray), .string (⟨#[110, 101, 119]⟩ : ByteArray), .string (⟨#[114, 101, 97, 100]⟩ : ByteArray), .string (⟨#[119, 114, 105, 116, 101]⟩ : ByteArray), .string (⟨#[102, 111, 114, 107]⟩ : ByteArray), .string (⟨#[119, 97, 105, 116]⟩ : ByteArray), .string (⟨#[101, 109, 105, 116]⟩ : ByteArray), .string (⟨#[114, 101, 108, 101, 97, 115, 101]⟩ : ByteArray), .string (⟨#[116, 97, 107, 101]⟩ : ByteArray), .string (⟨#[114, 101, 116]⟩ : ByteArray), .string (⟨#[102, 97, 105, 108]⟩ : ByteArray)], rfl, rfl, ⟨[.string (⟨#[106, 117, 109, 112, 122]⟩ : ByteArray)], [.string (⟨#[108, 111, 97, 100]⟩ : ByteArray), .string (⟨#[115, 116, 111, 114, 101]⟩ : ByteArray), .string (⟨#[108, 97, 98, 101, 108]⟩ : ByteArray), .string (⟨#[114, 97, 105, 115, 101]⟩ : ByteArray), .string (⟨#[105, 110, 112, 117, 116]⟩ : ByteArray), .string (⟨#[110, 101, 119]⟩ : ByteArray), .string (⟨#[114, 101, 97, 100]⟩ : ByteArray), .string (⟨#[119, 114, 105, 116, 101]⟩ : ByteArray), .string (⟨#[102, 111, 114, 107]⟩ : ByteArray), .string (⟨#[119, 97, 105, 116]⟩ : ByteArray), .string (⟨#[101, 109, 105, 116]⟩ : ByteArray), .string (⟨#[114, 101, 108, 101, 97, 115, 101]⟩ : ByteArray), .string (⟨#[116, 97, 107, 101]⟩ : ByteArray), .string (⟨#[114, 101, 116]⟩ : ByteArray), .string (⟨#[102, 97, 105, 108]⟩ : ByteArray)], rfl, rfl, ⟨[.string (⟨#[108, 111, 97, 100]⟩ : ByteArray)], [.string (⟨#[115, 116, 111, 114, 101]⟩ : ByteArray), .string (⟨#[108, 97, 98, 101, 108]⟩ : ByteArray), .string (⟨#[114, 97, 105, 115, 101]⟩ : ByteArray), .string (⟨#[105, 110, 112, 117, 116]⟩ : ByteArray), .string (⟨#[110, 101, 119]⟩ : ByteArray), .string (⟨#[114, 101, 97, 100]⟩ : ByteArray), .string (⟨#[119, 114, 105, 116, 101]⟩ : ByteArray), .string (⟨#[102, 111, 114, 107]⟩ : ByteArray), .string (⟨#[119, 97, 105, 116]⟩ : ByteArray), .string (⟨#[101, 109, 105, 116]⟩ : ByteArray), .string (⟨#[114, 101, 108, 101, 97, 115, 101]⟩ : ByteArray), .string (⟨#[116, 97, 107, 101]⟩ : ByteArray), .string (⟨#[114, 101, 116]⟩ : ByteArray), .string (⟨#[102, 97, 105, 108]⟩ : ByteArray)], rfl, rfl, ⟨[.string (⟨#[115, 116, 111, 114, 101]⟩ : ByteArray)], [.string (⟨#[108, 97, 98, 101, 108]⟩ : ByteArray), .string (⟨#[114, 97, 105, 115, 101]⟩ : ByteArray), .string (⟨#[105, 110, 112, 117, 116]⟩ : ByteArray), .string (⟨#[110, 101, 119]⟩ : ByteArray), .string (⟨#[114, 101, 97, 100]⟩ : ByteArray), .string (⟨#[119, 114, 105, 116, 101]⟩ : ByteArray), .string (⟨#[102, 111, 114, 107]⟩ : ByteArray), .string (⟨#[119, 97, 105, 116]⟩ : ByteArray), .string (⟨#[101, 109, 105, 116]⟩ : ByteArray), .string (⟨#[114, 101, 108, 101, 97, 115, 101]⟩ : ByteArray), .string (⟨#[116, 97, 107, 101]⟩ : ByteArray), .string (⟨#[114, 101, 116]⟩ : ByteArray), .string (⟨#[102, 97, 105, 108]⟩ : ByteArray)], rfl, rfl, ⟨[.string (⟨#[108, 97, 98, 101, 108]⟩ : ByteArray)], [.string (⟨#[114, 97, 105, 115, 101]⟩ : ByteArray), .string (⟨#[105, 110, 112, 117, 116]⟩ : ByteArray), .string (⟨#[110, 101, 119]⟩ : ByteArray), .string (⟨#[114, 101, 97, 100]⟩ : ByteArray), .string (⟨#[119, 114, 105, 116, 101]⟩ : ByteArray), .string (⟨#[102, 111, 114, 107]⟩ : ByteArray), .string (⟨#[119, 97, 105, 116]⟩ : ByteArray), .string (⟨#[101, 109, 105, 116]⟩ : ByteArray), .string (⟨#[114, 101, 108, 101, 97, 115, 101]⟩ : ByteArray), .string (⟨#[116, 97, 107, 101]⟩ : ByteArray), .string (⟨#[114, 101, 116]⟩ : ByteArray), .string (⟨#[102, 97, 105, 108]⟩ : ByteArray)], rfl, rfl, ⟨[.string (⟨#[114, 97, 105, 115, 101]⟩ : ByteArray)], [.string (⟨#[105, 110, 112, 117, 116]⟩ : ByteArray), .string (⟨#[110, 101, 119]⟩ : ByteArray), .string (⟨#[114, 101, 97, 100]⟩ : ByteArray), .string (⟨#[119, 114, 105, 116, 101]⟩ : ByteArray), .string (⟨#[102, 111, 114, 107]⟩ : ByteArray), .string (⟨#[119, 97, 105, 116]⟩ : ByteArray), .string (⟨#[101, 109, 105, 116]⟩ : ByteArray), .string (⟨#[114, 101, 108, 101, 97, 115, 101]⟩ : ByteArray), .string (⟨#[116, 97, 107, 101]⟩ : ByteArray), .string (⟨#[114, 101, 116]⟩ : ByteArray), .string (⟨#[102, 97, 105, 108]⟩ : ByteArray)], rfl, rfl, ⟨[.string (⟨#[105, 110, 112, 117, 116]⟩ : ByteArray)], [.string (⟨#[110, 101, 119]⟩ : ByteArray), .string (⟨#[114, 101, 97, 100]⟩ : ByteArray), .string (⟨#[119, 114, 105, 116, 101]⟩ : ByteArray), .string (⟨#[102, 111, 114, 107]⟩ : ByteArray), .string (⟨#[119, 97, 105, 116]⟩ : ByteArray), .string (⟨#[101, 109, 105, 116]⟩ : ByteArray), .string (⟨#[114, 101, 108, 101, 97, 115, 101]⟩ : ByteArray), .string (⟨#[116, 97, 107, 101]⟩ : ByteArray), .string (⟨#[114, 101, 116]⟩ : ByteArray), .string (⟨#[102, 97, 105, 108]⟩ : ByteArray)], rfl, rfl, ⟨[.string (⟨#[110, 101, 119]⟩ : ByteArray)], [.string (⟨#[114, 101, 97, 100]⟩ : ByteArray), .string (⟨#[119, 114, 105, 116, 101]⟩ : ByteArray), .string (⟨#[102, 111, 114, 107]⟩ : ByteArray), .string (⟨#[119, 97, 105, 116]⟩ : ByteArray), .string (⟨#[101, 109, 105, 116]⟩ : ByteArray), .string (⟨#[114, 101, 108, 101, 97, 115, 101]⟩ : ByteArray), .string (⟨#[116, 97, 107, 101]⟩ : ByteArray), .string (⟨#[114, 101, 116]⟩ : ByteArray), .string (⟨#[102, 97, 105, 108]⟩ : ByteArray)], rfl, rfl, ⟨[.string (⟨#[114, 101, 97, 100]⟩ : ByteArray)], [.string (⟨#[119, 114, 105, 116, 101]⟩ : ByteArray), .string (⟨#[102, 111, 114, 107]⟩ : ByteArray), .string (⟨#[119, 97, 105, 116]⟩ : ByteArray), .string (⟨#[101, 109, 105, 116]⟩ : ByteArray), .string (⟨#[114, 101, 108, 101, 97, 115, 101]⟩ : ByteArray), .string (⟨#[116, 97, 107, 101]⟩ : ByteArray), .string (⟨#[114, 101, 116]⟩ : ByteArray), .string (⟨#[102, 97, 105, 108]⟩ : ByteArray)], rfl, rfl, ⟨[.string (⟨#[119, 114, 105, 116, 101]⟩ : ByteArray)], [.string (⟨#[102, 111, 114, 107]⟩ : ByteArray), .string (⟨#[119, 97, 105, 116]⟩ : ByteArray), .string (⟨#[101, 109, 105, 116]⟩ : ByteArray), .string (⟨#[114, 101, 108, 101, 97, 115, 101]⟩ : ByteArray), .string (⟨#[116, 97, 107, 101]⟩ : ByteArray), .string (⟨#[114, 101, 116]⟩ : ByteArray), .string (⟨#[102, 97, 105, 108]⟩ : ByteArray)], rfl, rfl, ⟨[.string (⟨#[102, 111, 114, 107]⟩ : ByteArray)], [.string (⟨#[119, 97, 105, 116]⟩ : ByteArray), .string (⟨#[101, 109, 105, 116]⟩ : ByteArray), .string (⟨#[114, 101, 108, 101, 97, 115, 101]⟩ : ByteArray), .string (⟨#[116, 97, 107, 101]⟩ : ByteArray), .string (⟨#[114, 101, 116]⟩ : ByteArray), .string (⟨#[102, 97, 105, 108]⟩ : ByteArray)], rfl, rfl, ⟨[.string (⟨#[119, 97, 105, 116]⟩ : ByteArray)], [.string (⟨#[101, 109, 105, 116]⟩ : ByteArray), .string (⟨#[114, 101, 108, 101, 97, 115, 101]⟩ : ByteArray), .string (⟨#[116, 97, 107, 101]⟩ : ByteArray), .string (⟨#[114, 101, 116]⟩ : ByteArray), .string (⟨#[102, 97, 105, 108]⟩ : ByteArray)], rfl, rfl, ⟨[.string (⟨#[101, 109, 105, 116]⟩ : ByteArray)], [.string (⟨#[114, 101, 108, 101, 97, 115, 101]⟩ : ByteArray), .string (⟨#[116, 97, 107, 101]⟩ : ByteArray), .string (⟨#[114, 101, 116]⟩ : ByteArray), .string (⟨#[102, 97, 105, 108]⟩ : ByteArray)], rfl, rfl, ⟨[.string (⟨#[114, 101, 108, 101, 97, 115, 101]⟩ : ByteArray)], [.string (⟨#[116, 97, 107, 101]⟩ : ByteArray), .string (⟨#[114, 101, 116]⟩ : ByteArray), .string (⟨#[102, 97, 105, 108]⟩ : ByteArray)], rfl, rfl, ⟨[.string (⟨#[116, 97, 107, 101]⟩ : ByteArray)], [.string (⟨#[114, 101, 116]⟩ : ByteArray), .string (⟨#[102, 97, 105, 108]⟩ : ByteArray)], rfl, rfl, ⟨[.string (⟨#[114, 101, 116]⟩ : ByteArray)], [.string (⟨#[102, 97, 105, 108]⟩ : ByteArray)], rfl, rfl, ⟨[.string (⟨#[102, 97, 105, 108]⟩ : ByteArray)], [], rfl, rfl, rfl⟩⟩⟩⟩⟩⟩⟩⟩⟩⟩⟩⟩⟩⟩⟩⟩⟩⟩⟩⟩⟩⟩⟩⟩⟩⟩)) ?_)
 intro a1 w hS
 refine EL.quick 1 [0] [(0, sv (some ⟨a1, 0, none⟩) 26 a0)] (by kernel_rfl) ?_
 refine EL.done (by kernel_rfl) ?_
 refine EQ.code ?_
 refine EW.ret (by kernel_rfl) ?_
 obtain rfl := Option.some.inj H
 exact EQ.leave (sv (some ⟨a1, 0, none⟩) 26 a0) (by kernel_rfl) ⟨_, rfl, (some ⟨a1, 0, none⟩), 26, rfl, (hS.re [0] [] rfl (sub_self))⟩

/-! ### confidant/confidantref5.Find: function 66 -/
def confidantref5_Find.l0 (K : Nat) (a0 : List ByteArray) (a2 : ByteArray) : Nat → Int → Option (Int × Bool)
 | 0, _ => none
 | n + 1, a1 => if a1 < (a0.length : Int) then (if 0 ≤ a1 then (if ((a0.getD a1.toNat ⟨#[]⟩).toList == a2.toList) = true then (some (IntKind.i64.wrap (a1 + 1), true)) else (confidantref5_Find.l0 K a0 a2 n (IntKind.i64.wrap (a1 + 1)))) else none) else (some (0, false))
def confidantref5_Find.f (K : Nat) (a2 : ByteArray) : Option (Int × Bool) := b1 (confidantref5_names.f K) fun (a0 : List ByteArray) => (confidantref5_Find.l0 K a0 a2 K 0)
set_option maxRecDepth 100000 in
theorem confidantref5_Find.calls {K : Nat} {a2 : ByteArray} {a9 : Int} {b0 : Bool} {B w : World} {os : List Ass} {rs : List Ro} (H : confidantref5_Find.f K a2 = some (a9, b0)) (hS : St B w (os) (rs)) :
  Calls Tryz.prog 66 [.string a2].toArray w (fun en w' => ∃ v, en = .returned v ∧ v = .tuple #[ia a9, .bool (b0)] ∧ St B w' (os) (rs)) := by
 unfold confidantref5_Find.f at H
 refine calls_of_EW (args := [.string a2]) (c := Cd66) 21 Tryz.func66 (by kernel_rfl) (by kernel_rfl) (by kernel_rfl) ?_
 refine EW.sq (by kernel_rfl) ?_
 refine EW.rg (by kernel_rfl) ?_
 refine EL.quick 2 [0] [(0, .string a2)] (by kernel_rfl) ?_
 refine EL.done (by kernel_rfl) ?_
 refine EQ.code ?_
 refine EW.sq (by kernel_rfl) ?_
 refine EW.rg (by kernel_rfl) ?_
 obtain ⟨a0, b2, H⟩ := b1_out H
 have hq := confidantref5_names.calls b2 hS
 refine EL.of (EO.callD 67 [] _ 6 (by kernel_rfl) (by kernel_rfl) (by kernel_rfl) hq ?_)
 rintro v w ⟨a4, a3, rfl, hS⟩
 refine EL.quick 1 [0, 4] [(0, .string a2), (4, sv a4 a3 a0)] (by kernel_rfl) ?_
 refine EL.done (by kernel_rfl) ?_
 refine EQ.code ?_
 refine EW.sq (by kernel_rfl) ?_
 refine EW.sq (by kernel_rfl) ?_
 refine EW.rg (by kernel_rfl) ?_
 refine EL.quick 1 [0, 4, 5] [(0, .string a2), (4, sv a4 a3 a0), (5, ia 0)] (by kernel_rfl) ?_
 refine EL.done (by kernel_rfl) ?_
 refine EQ.code ?_
 refine EW.bl 0 (by kernel_rfl) ?_
 refine EW.lp (fun n a w => ∃ a1 : Int, Sat 21 [(0, .string a2), (4, sv a4 a3 a0), (5, ia a1)] a ∧ St B w (Ass.own 9 Kd.str a4 a3 a0 :: os) (rs) ∧ confidantref5_Find.l0 K a0 a2 n a1 = some (a9, b0)) K (by kernel_rfl) ?_ (fun n a w hI => ?_)
 ·refine EQ.keep [0, 4, 5] [(0, .string a2), (4, sv a4 a3 a0), (5, ia 0)] (by kernel_rfl) ?_
  exact fun a ha => ⟨0, ha, (hS.re [0] [] rfl (sub_self)), H⟩
 obtain ⟨a1, ha, hS, H⟩ := hI
 obtain _ | n := n
 ·simp [confidantref5_Find.l0] at H
 rw [confidantref5_Find.l0.eq_2] at H
 refine EW.at ?_ a ha
 clear ha a
 refine EW.sq (by kernel_rfl) ?_
 refine EW.sq (by kernel_rfl) ?_
 refine EW.rg (by kernel_rfl) ?_
 refine EL.quick 4 [0, 4, 5, 10] [(0, .string a2), (4, sv a4 a3 a0), (5, ia a1), (10, .bool (decide (a1 < (a0.length : Int))))] (by kernel_rfl) ?_
 refine EL.done (by kernel_rfl) ?_
 refine EQ.code ?_
 refine EW.cdP (a1 < (a0.length : Int)) (by kernel_rfl) (by kernel_rfl) (fun a5 => ?_) (fun a5 => ?_)
 ·rw [if_pos a5] at H
  refine EW.skip (by kernel_rfl) ?_
  refine EQ.code ?_
  refine EW.sq (by kernel_rfl) ?_
  refine EW.bl 1 (by kernel_rfl) ?_
  refine EW.sq (by kernel_rfl) ?_
  refine EW.rg (by kernel_rfl) ?_
  refine EL.quick 2 [0, 4, 5, 13, 14] [(0, .string a2), (4, sv a4 a3 a0), (5, ia a1), (13, sv a4 a3 a0), (14, ia a1)] (by kernel_rfl) ?_
  obtain ⟨a7, H⟩ := ite_in H
  obtain ⟨a6, rfl⟩ := St.rd_some hS (Rd.own 0 9 rfl) a7 a5
  refine EL.of (EO.Y (YO.idx 28 1 a6 a0.length a3 .i64 a1 15 (by kernel_rfl) (by kernel_rfl) (by kernel_rfl) (by kernel_rfl) a7 a5) ?_)
  refine EL.of (EO.Y (YO.loadEl hS Kd.str a6 a3 a0 (Rd.own 0 9 rfl) ⟨#[]⟩ encS encS_of a1 a7 a5 9 1 0 1 rfl (.string (a0.getD a1.toNat ⟨#[]⟩)) 16 (by kernel_rfl) (by kernel_rfl) (by kernel_rfl) (by kernel_rfl)) ?_)
  refine EL.quick 2 [0, 4, 5, 18] [(0, .string a2), (4, sv (some a6) a3 a0), (5, ia a1), (18, .bool (((a0.getD a1.toNat ⟨#[]⟩).toList == a2.toList)))] (by kernel_rfl) ?_
  refine EL.done (by kernel_rfl) ?_
  refine EQ.code ?_
  refine EW.cdP' (((a0.getD a1.toNat ⟨#[]⟩).toList == a2.toList)) (by kernel_rfl) (by kernel_rfl) (fun a8 => ?_) (fun a8 => ?_)
  ·rw [if_pos a8] at H
   refine EW.sq (by kernel_rfl) ?_
   refine EW.rg (by kernel_rfl) ?_
   refine EL.quick 4 [2, 3] [(2, ia (IntKind.i64.wrap (a1 + 1))), (3, .bool (true))] (by kernel_rfl) ?_
   refine EL.done (by kernel_rfl) ?_
   refine EQ.code ?_
   refine EW.ret (by kernel_rfl) ?_
   refine EQ.ret ?_
   refine EQ.ret ?_
   refine EQ.ret ?_
   refine EQ.ret ?_
   refine EQ.ret ?_
   simp only [sv, Option.some.injEq, Prod.mk.injEq] at H
   obtain ⟨rfl, rfl⟩ := H
   exact EQ.leave (.tuple #[ia (IntKind.i64.wrap (a1 + 1)), .bool (true)]) (by kernel_rfl) ⟨_, rfl, rfl, (hS.re [] [0] rfl (sub_self))⟩
  rw [if_neg a8] at H
  refine EW.skip (by kernel_rfl) ?_
  refine EQ.pop ?_
  refine EQ.code ?_
  refine EW.rg (by kernel_rfl) ?_
  refine EL.quick 3 [0, 4, 5] [(0, .string a2), (4, sv (some a6) a3 a0), (5, ia (IntKind.i64.wrap (a1 + 1)))] (by kernel_rfl) ?_
  refine EL.done (by kernel_rfl) ?_
  refine EQ.to ?_
  refine EQ.keep [0, 4, 5] [(0, .string a2), (4, sv (some a6) a3 a0), (5, ia (IntKind.i64.wrap (a1 + 1)))] (by kernel_rfl) ?_
  exact fun a ha => ⟨n, Nat.lt_succ_self n, IntKind.i64.wrap (a1 + 1), ha, (hS.re [0] [] rfl (sub_self)), H⟩
 rw [if_neg a5] at H
 refine EW.exit (id := 0) (by kernel_rfl) ?_
 refine EQ.exitCode ?_
 refine EQ.exitTo ?_
 refine EQ.exitHere ?_
 refine EQ.code ?_
 refine EW.sq (by kernel_rfl) ?_
 refine EW.rg (by kernel_rfl) ?_
 refine EL.quick 2 [2, 3] [(2, ia 0), (3, .bool (false))] (by kernel_rfl) ?_
 refine EL.done (by kernel_rfl) ?_
 refine EQ.code ?_
 refine EW.ret (by kernel_rfl) ?_
 simp only [sv, Option.some.injEq, Prod.mk.injEq] at H
 obtain ⟨rfl, rfl⟩ := H
 exact EQ.leave (.tuple #[ia 0, .bool (false)]) (by kernel_rfl) ⟨_, rfl, rfl, (hS.re [] [0] rfl (sub_self))⟩

/-! ### confidant/confidantref5.Name: function 48 -/
def confidantref5_Name.f (K : Nat) (a0 : Int) : Option ByteArray := b1 (confidantref5_Known.f K a0) fun (a2 : Bool) => (if a2 = true then (b1 (confidantref5_names.f K) fun (a1 : List ByteArray) => (if 0 ≤ (IntKind.i64.wrap (a0 - 1)) then (if (IntKind.i64.wrap (a0 - 1)) < (a1.length : Int) then (some (a1.getD (IntKind.i64.wrap (a0 - 1)).toNat ⟨#[]⟩)) else none) else none)) else (some (⟨#[]⟩ : ByteArray)))
set_option maxRecDepth 100000 in
theorem confidantref5_Name.calls {K : Nat} {a0 : Int} {a8 : ByteArray} {B w : World} {os : List Ass} {rs : List Ro} (H : confidantref5_Name.f K a0 = some a8) (hS : St B w (os) (rs)) :
  Calls Tryz.prog 48 [ia a0].toArray w (fun en w' => ∃ v, en = .returned v ∧ v = .string a8 ∧ St B w' (os) (rs)) := by
 unfold confidantref5_Name.f at H
 refine calls_of_EW (args := [ia a0]) (c := Cd48) 11 Tryz.func48 (by kernel_rfl) (by kernel_rfl) (by kernel_rfl) ?_
 refine EW.sq (by kernel_rfl) ?_
 refine EW.rg (by kernel_rfl) ?_
 refine EL.quick 1 [0] [(0, ia a0)] (by kernel_rfl) ?_
 refine EL.done (by kernel_rfl) ?_
 refine EQ.code ?_
 refine EW.sq (by kernel_rfl) ?_
 refine EW.sq (by kernel_rfl) ?_
 refine EW.rg (by kernel_rfl) ?_
 refine EL.quick 1 [0, 3] [(0, ia a0), (3, ia a0)] (by kernel_rfl) ?_
 obtain ⟨a2, b0, H⟩ := b1_out H
 have hq := confidantref5_Known.calls b0 hS
 refine EL.of (EO.callD 58 [ia a0] _ 4 (by kernel_rfl) (by kernel_rfl) (by kernel_rfl) hq ?_)
 rintro v w ⟨rfl, hS⟩
 refine EL.quick 1 [0, 5] [(0, ia a0), (5, .bool (!(a2)))] (by kernel_rfl) ?_
 refine EL.done (by kernel_rfl) ?_
 refine EQ.code ?_
 refine EW.cdQ (b := !(a2)) (a2 = true) (false) (by kernel_rfl) (by kernel_rfl) ⟨fun h => (by rw [h] <;> rfl), fun h => (by rw [Bool.eq_false_iff.2 h] <;> rfl)⟩ (fun a4 => ?_) (fun a4 => ?_)
 ·rw [if_pos a4] at H
  refine EW.skip (by kernel_rfl) ?_
  refine EQ.code ?_
  refine EW.sq (by kernel_rfl) ?_
  refine EW.rg (by kernel_rfl) ?_
  obtain ⟨a1, b2, H⟩ := b1_out H
  have hq := confidantref5_names.calls b2 hS
  refine EL.of (EO.callD 67 [] _ 6 (by kernel_rfl) (by kernel_rfl) (by kernel_rfl) hq ?_)
  rintro v w ⟨a9, a3, rfl, hS⟩
  refine EL.quick 2 [6, 8] [(6, sv a9 a3 a1), (8, ia (IntKind.i64.wrap (a0 - 1)))] (by kernel_rfl) ?_
  obtain ⟨a5, H⟩ := ite_in H
  obtain ⟨a6, H⟩ := ite_in H
  obtain ⟨a7, rfl⟩ := St.rd_some hS (Rd.own 0 9 rfl) a5 a6
  refine EL.of (EO.Y (YO.idx 28 1 a7 a1.length a3 .i64 (IntKind.i64.wrap (a0 - 1)) 9 (by kernel_rfl) (by kernel_rfl) (by kernel_rfl) (by kernel_rfl) a5 a6) ?_)
  refine EL.of (EO.Y (YO.loadEl hS Kd.str a7 a3 a1 (Rd.own 0 9 rfl) ⟨#[]⟩ encS encS_of (IntKind.i64.wrap (a0 - 1)) a5 a6 9 1 0 1 rfl (.string (a1.getD (IntKind.i64.wrap (a0 - 1)).toNat ⟨#[]⟩)) 10 (by kernel_rfl) (by kernel_rfl) (by kernel_rfl) (by kernel_rfl)) ?_)
  refine EL.quick 1 [2] [(2, .string (a1.getD (IntKind.i64.wrap (a0 - 1)).toNat ⟨#[]⟩))] (by kernel_rfl) ?_
  refine EL.done (by kernel_rfl) ?_
  refine EQ.code ?_
  refine EW.ret (by kernel_rfl) ?_
  obtain rfl := Option.some.inj H
  exact EQ.leave (.string (a1.getD (IntKind.i64.wrap (a0 - 1)).toNat ⟨#[]⟩)) (by kernel_rfl) ⟨_, rfl, rfl, (hS.re [] [0] rfl (sub_self))⟩
 rw [if_neg a4] at H
 refine EW.sq (by kernel_rfl) ?_
 refine EW.rg (by kernel_rfl) ?_
 refine EL.quick 1 [2] [(2, .string (⟨#[]⟩ : ByteArray))] (by kernel_rfl) ?_
 refine EL.done (by kernel_rfl) ?_
 refine EQ.code ?_
 refine EW.ret (by kernel_rfl) ?_
 refine EQ.ret ?_
 obtain rfl := Option.some.inj H
 exact EQ.leave (.string (⟨#[]⟩ : ByteArray)) (by kernel_rfl) ⟨_, rfl, rfl, (hS.re [] [] rfl (sub_self))⟩

/-! ### confidant/confidantref5.dec: function 68 -/
def confidantref5_dec.f : Nat → Int → Option ByteArray
 | 0, _ => none
 | K + 1, a0 => if a0 < 10 then (if 0 ≤ a0 then (if a0 ≤ (IntKind.u64.wrap (a0 + 1)) then (if (IntKind.u64.wrap (a0 + 1)) ≤ ((⟨#[48, 49, 50, 51, 52, 53, 54, 55, 56, 57]⟩ : ByteArray).size : Int) then (some ((⟨#[48, 49, 50, 51, 52, 53, 54, 55, 56, 57]⟩ : ByteArray).extract a0.toNat ((IntKind.u64.wrap (a0 + 1)).toNat))) else none) else none) else none) else (b1 (confidantref5_dec.f K (IntKind.u64.wrap (Int.tdiv a0 10))) fun (a1 : ByteArray) => (b1 (confidantref5_dec.f K (Int.tmod a0 10)) fun (a2 : ByteArray) => (if a1.size + a2.size ≤ 9223372036854775807 then (some (a1 ++ a2)) else none)))
set_option maxRecDepth 100000 in
theorem confidantref5_dec.calls {K : Nat} {a0 : Int} {a4 : ByteArray} {B w : World} {os : List Ass} {rs : List Ro} (H : confidantref5_dec.f K a0 = some a4) (hS : St B w (os) (rs)) :
    Calls Tryz.prog 68 [ic a0].toArray w (fun en w' => ∃ v, en = .returned v ∧ v = .string a4 ∧ St B w' (os) (rs)) := by
  induction K generalizing a0 a4 B w os rs with
  | zero => exact absurd H (by unfold confidantref5_dec.f; simp)
  | succ K ih =>
    unfold confidantref5_dec.f at H
    refine calls_of_EW (args := [ic a0]) (c := Cd68) 16 Tryz.func68 (by kernel_rfl) (by kernel_rfl) (by kernel_rfl) ?_
    refine EW.sq (by kernel_rfl) ?_
    refine EW.rg (by kernel_rfl) ?_
    refine EL.quick 1 [0] [(0, ic a0)] (by kernel_rfl) ?_
    refine EL.done (by kernel_rfl) ?_
    refine EQ.code ?_
    refine EW.sq (by kernel_rfl) ?_
    refine EW.sq (by kernel_rfl) ?_
    refine EW.rg (by kernel_rfl) ?_
    refine EL.quick 2 [0, 4] [(0, ic a0), (4, .bool (decide (a0 < 10)))] (by kernel_rfl) ?_
    refine EL.done (by kernel_rfl) ?_
    refine EQ.code ?_
    refine EW.cdP (a0 < 10) (by kernel_rfl) (by kernel_rfl) (fun a3 => ?_) (fun a3 => ?_)
    · rw [if_pos a3] at H
      refine EW.sq (by kernel_rfl) ?_
      refine EW.rg (by kernel_rfl) ?_
      refine EL.quick 3 [5, 7] [(5, ic a0), (7, ic (IntKind.u64.wrap (a0 + 1)))] (by kernel_rfl) ?_
      obtain ⟨a8, H⟩ := ite_in H
      obtain ⟨a9, H⟩ := ite_in H
      obtain ⟨b0, H⟩ := ite_in H
      refine EL.of (EO.Y (YO.strSlice (⟨#[48, 49, 50, 51, 52, 53, 54, 55, 56, 57]⟩ : ByteArray) (some (ic a0)) (some (ic (IntKind.u64.wrap (a0 + 1)))) a0.toNat ((IntKind.u64.wrap (a0 + 1)).toNat) 9 8 (by kernel_rfl) (by kernel_rfl) (by kernel_rfl) (by kernel_rfl) ((Int.toNat_of_nonneg (by omega)).symm) ((Int.toNat_of_nonneg (by omega)).symm) (by omega) (by omega)) ?_)
      refine EL.quick 1 [2] [(2, .string ((⟨#[48, 49, 50, 51, 52, 53, 54, 55, 56, 57]⟩ : ByteArray).extract a0.toNat ((IntKind.u64.wrap (a0 + 1)).toNat)))] (by kernel_rfl) ?_
      refine EL.done (by kernel_rfl) ?_
      refine EQ.code ?_
      refine EW.ret (by kernel_rfl) ?_
      refine EQ.ret ?_
      obtain rfl := Option.some.inj H
      exact EQ.leave (.string ((⟨#[48, 49, 50, 51, 52, 53, 54, 55, 56, 57]⟩ : ByteArray).extract a0.toNat ((IntKind.u64.wrap (a0 + 1)).toNat))) (by kernel_rfl) ⟨_, rfl, rfl, (hS.re [] [] rfl (sub_self))⟩
    rw [if_neg a3] at H
    refine EW.skip (by kernel_rfl) ?_
    refine EQ.code ?_
    refine EW.sq (by kernel_rfl) ?_
    refine EW.rg (by kernel_rfl) ?_
    refine EL.quick 2 [0, 10] [(0, ic a0), (10, ic (IntKind.u64.wrap (Int.tdiv a0 10)))] (by kernel_rfl) ?_
    obtain ⟨a1, a6, H⟩ := b1_out H
    have hq := ih a6 hS
    refine EL.of (EO.callD 68 [ic (IntKind.u64.wrap (Int.tdiv a0 10))] _ 11 (by kernel_rfl) (by kernel_rfl) (by kernel_rfl) hq ?_)
    rintro v w ⟨rfl, hS⟩
    refine EL.quick 2 [11, 13] [(11, .string a1), (13, ic (Int.tmod a0 10))] (by kernel_rfl) ?_
    obtain ⟨a2, a7, H⟩ := b1_out H
    have hq := ih a7 hS
    refine EL.of (EO.callD 68 [ic (Int.tmod a0 10)] _ 14 (by kernel_rfl) (by kernel_rfl) (by kernel_rfl) hq ?_)
    rintro v w ⟨rfl, hS⟩
    obtain ⟨a5, H⟩ := ite_in H
    refine EL.of (EO.Y (YO.strCat a1 a2 15 (by kernel_rfl) (by kernel_rfl) (by kernel_rfl) a5) ?_)
    refine EL.quick 1 [2] [(2, .string (a1 ++ a2))] (by kernel_rfl) ?_
    refine EL.done (by kernel_rfl) ?_
    refine EQ.code ?_
    refine EW.ret (by kernel_rfl) ?_
    obtain rfl := Option.some.inj H
    exact EQ.leave (.string (a1 ++ a2)) (by kernel_rfl) ⟨_, rfl, rfl, (hS.re [] [] rfl (sub_self))⟩

/-! ### confidant/confidantref5.Decimal: function 49 -/
def confidantref5_Decimal.f (K : Nat) (a0 : Int) : Option ByteArray := if a0 < 0 then (b1 (confidantref5_dec.f K (IntKind.u64.wrap ((IntKind.u64.wrap (IntKind.i64.wrap (0 - (IntKind.i64.wrap (a0 + 1))))) + 1))) fun (a1 : ByteArray) => (if (⟨#[45]⟩ : ByteArray).size + a1.size ≤ 9223372036854775807 then (some ((⟨#[45]⟩ : ByteArray) ++ a1)) else none)) else (b1 (confidantref5_dec.f K (IntKind.u64.wrap a0)) fun (a2 : ByteArray) => (some a2))
set_option maxRecDepth 100000 in
theorem confidantref5_Decimal.calls {K : Nat} {a0 : Int} {a4 : ByteArray} {B w : World} {os : List Ass} {rs : List Ro} (H : confidantref5_Decimal.f K a0 = some a4) (hS : St B w (os) (rs)) :
  Calls Tryz.prog 49 [ia a0].toArray w (fun en w' => ∃ v, en = .returned v ∧ v = .string a4 ∧ St B w' (os) (rs)) := by
 unfold confidantref5_Decimal.f at H
 refine calls_of_EW (args := [ia a0]) (c := Cd49) 15 Tryz.func49 (by kernel_rfl) (by kernel_rfl) (by kernel_rfl) ?_
 refine EW.sq (by kernel_rfl) ?_
 refine EW.rg (by kernel_rfl) ?_
 refine EL.quick 1 [0] [(0, ia a0)] (by kernel_rfl) ?_
 refine EL.done (by kernel_rfl) ?_
 refine EQ.code ?_
 refine EW.sq (by kernel_rfl) ?_
 refine EW.sq (by kernel_rfl) ?_
 refine EW.rg (by kernel_rfl) ?_
 refine EL.quick 2 [0, 4] [(0, ia a0), (4, .bool (decide (a0 < 0)))] (by kernel_rfl) ?_
 refine EL.done (by kernel_rfl) ?_
 refine EQ.code ?_
 refine EW.cdP (a0 < 0) (by kernel_rfl) (by kernel_rfl) (fun a3 => ?_) (fun a3 => ?_)
 ·rw [if_pos a3] at H
  refine EW.sq (by kernel_rfl) ?_
  refine EW.rg (by kernel_rfl) ?_
  refine EL.quick 5 [9] [(9, ic (IntKind.u64.wrap ((IntKind.u64.wrap (IntKind.i64.wrap (0 - (IntKind.i64.wrap (a0 + 1))))) + 1)))] (by kernel_rfl) ?_
  obtain ⟨a1, a6, H⟩ := b1_out H
  have hq := confidantref5_dec.calls a6 hS
  refine EL.of (EO.callD 68 [ic (IntKind.u64.wrap ((IntKind.u64.wrap (IntKind.i64.wrap (0 - (IntKind.i64.wrap (a0 + 1))))) + 1))] _ 10 (by kernel_rfl) (by kernel_rfl) (by kernel_rfl) hq ?_)
  rintro v w ⟨rfl, hS⟩
  obtain ⟨a5, H⟩ := ite_in H
  refine EL.of (EO.Y (YO.strCat (⟨#[45]⟩ : ByteArray) a1 11 (by kernel_rfl) (by kernel_rfl) (by kernel_rfl) a5) ?_)
  refine EL.quick 1 [2] [(2, .string ((⟨#[45]⟩ : ByteArray) ++ a1))] (by kernel_rfl) ?_
  refine EL.done (by kernel_rfl) ?_
  refine EQ.code ?_
  refine EW.ret (by kernel_rfl) ?_
  refine EQ.ret ?_
  obtain rfl := Option.some.inj H
  exact EQ.leave (.string ((⟨#[45]⟩ : ByteArray) ++ a1)) (by kernel_rfl) ⟨_, rfl, rfl, (hS.re [] [] rfl (sub_self))⟩
 rw [if_neg a3] at H
 refine EW.skip (by kernel_rfl) ?_
 refine EQ.code ?_
 refine EW.sq (by kernel_rfl) ?_
 refine EW.rg (by kernel_rfl) ?_
 refine EL.quick 2 [13] [(13, ic (IntKind.u64.wrap a0))] (by kernel_rfl) ?_
 obtain ⟨a2, a7, H⟩ := b1_out H
 have hq := confidantref5_dec.calls a7 hS
 refine EL.of (EO.callD 68 [ic (IntKind.u64.wrap a0)] _ 14 (by kernel_rfl) (by kernel_rfl) (by kernel_rfl) hq ?_)
 rintro v w ⟨rfl, hS⟩
 refine EL.quick 1 [2] [(2, .string a2)] (by kernel_rfl) ?_
 refine EL.done (by kernel_rfl) ?_
 refine EQ.code ?_
 refine EW.ret (by kernel_rfl) ?_
 obtain rfl := Option.some.inj H
 exact EQ.leave (.string a2) (by kernel_rfl) ⟨_, rfl, rfl, (hS.re [] [] rfl (sub_self))⟩

/-! ### confidant/confidantref5.Text: function 22 -/
def confidantref5_Text.f (K : Nat) (a0 : Int) (a1 : Int) : Option ByteArray := b1 (confidantref5_Right.f K a0 a1) fun (a5 : Bool) => (if a5 = true then (b1 (confidantref5_Arg.f K a0) fun (a6 : Int) => (if a6 = 0 then (b1 (confidantref5_Name.f K a0) fun (a7 : ByteArray) => (some a7)) else (b1 (confidantref5_Name.f K a0) fun (a3 : ByteArray) => (if a3.size + (⟨#[32]⟩ : ByteArray).size ≤ 9223372036854775807 then (b1 (confidantref5_Decimal.f K (IntKind.i64.wrap a1)) fun (a4 : ByteArray) => (if (a3 ++ (⟨#[32]⟩ : ByteArray)).size + a4.size ≤ 9223372036854775807 then (some ((a3 ++ (⟨#[32]⟩ : ByteArray)) ++ a4)) else none)) else none)))) else (some (⟨#[]⟩ : ByteArray)))
set_option maxRecDepth 100000 in
theorem confidantref5_Text.calls {K : Nat} {a0 : Int} {a1 : Int} {b0 : ByteArray} {B w : World} {os : List Ass} {rs : List Ro} (H : confidantref5_Text.f K a0 a1 = some b0) (hS : St B w (os) (rs)) :
  Calls Tryz.prog 22 [ag [ia a0, ib a1]].toArray w (fun en w' => ∃ v, en = .returned v ∧ v = .string b0 ∧ St B w' (os) (rs)) := by
 unfold confidantref5_Text.f at H
 refine calls_of_EW (args := [ag [ia a0, ib a1]]) (c := Cd22) 24 Tryz.func22 (by kernel_rfl) (by kernel_rfl) (by kernel_rfl) ?_
 refine EW.sq (by kernel_rfl) ?_
 refine EW.rg (by kernel_rfl) ?_
 refine EL.of (EO.box hS 59 (ag [ia a0, ib a1]) [ia a0, ib a1] 1 (by kernel_rfl) (by kernel_rfl) (by kernel_rfl) (by first | rfl | kernel_rfl) ?_)
 intro a2 w hS
 refine EL.quick 1 [1] [(1, pt a2 0)] (by kernel_rfl) ?_
 refine EL.done (by kernel_rfl) ?_
 refine EQ.code ?_
 refine EW.sq (by kernel_rfl) ?_
 refine EW.bl 0 (by kernel_rfl) ?_
 refine EW.sq (by kernel_rfl) ?_
 refine EW.rg (by kernel_rfl) ?_
 refine EL.of (EO.Y (YO.loadBox hS 0 rfl 59 0 2 (ag [ia a0, ib a1]) 4 (by kernel_rfl) (by kernel_rfl) (by kernel_rfl) (by kernel_rfl)) ?_)
 obtain ⟨a5, b4, H⟩ := b1_out H
 have hq := confidantref5_Right.calls b4 hS
 refine EL.of (EO.callD 32 [ag [ia a0, ib a1]] _ 5 (by kernel_rfl) (by kernel_rfl) (by kernel_rfl) hq ?_)
 rintro v w ⟨rfl, hS⟩
 refine EL.quick 2 [1, 3] [(1, pt a2 0), (3, .bool (!(a5)))] (by kernel_rfl) ?_
 refine EL.done (by kernel_rfl) ?_
 refine EQ.code ?_
 refine EW.cdQ (b := !(a5)) (a5 = true) (false) (by kernel_rfl) (by kernel_rfl) ⟨fun h => (by rw [h] <;> rfl), fun h => (by rw [Bool.eq_false_iff.2 h] <;> rfl)⟩ (fun a8 => ?_) (fun a8 => ?_)
 ·rw [if_pos a8] at H
  refine EW.sq (by kernel_rfl) ?_
  refine EW.rg (by kernel_rfl) ?_
  refine EL.quick 1 [1, 8] [(1, pt a2 0), (8, pt a2 0)] (by kernel_rfl) ?_
  refine EL.of (EO.Y (YO.loadBox hS 0 rfl 3 0 1 (ia a0) 9 (by kernel_rfl) (by kernel_rfl) (by kernel_rfl) (by kernel_rfl)) ?_)
  obtain ⟨a6, b5, H⟩ := b1_out H
  have hq := confidantref5_Arg.calls b5 hS
  refine EL.of (EO.callD 47 [ia a0] _ 10 (by kernel_rfl) (by kernel_rfl) (by kernel_rfl) hq ?_)
  rintro v w ⟨rfl, hS⟩
  refine EL.quick 2 [1, 7] [(1, pt a2 0), (7, .bool (decide (a6 = 0)))] (by kernel_rfl) ?_
  refine EL.done (by kernel_rfl) ?_
  refine EQ.code ?_
  refine EW.cdP (a6 = 0) (by kernel_rfl) (by kernel_rfl) (fun a9 => ?_) (fun a9 => ?_)
  ·rw [if_pos a9] at H
   refine EW.sq (by kernel_rfl) ?_
   refine EW.rg (by kernel_rfl) ?_
   refine EL.quick 1 [12] [(12, pt a2 0)] (by kernel_rfl) ?_
   refine EL.of (EO.Y (YO.loadBox hS 0 rfl 3 0 1 (ia a0) 13 (by kernel_rfl) (by kernel_rfl) (by kernel_rfl) (by kernel_rfl)) ?_)
   obtain ⟨a7, b6, H⟩ := b1_out H
   have hq := confidantref5_Name.calls b6 hS
   refine EL.of (EO.callD 48 [ia a0] _ 14 (by kernel_rfl) (by kernel_rfl) (by kernel_rfl) hq ?_)
   rintro v w ⟨rfl, hS⟩
   refine EL.quick 1 [2] [(2, .string a7)] (by kernel_rfl) ?_
   refine EL.done (by kernel_rfl) ?_
   refine EQ.code ?_
   refine EW.ret (by kernel_rfl) ?_
   refine EQ.ret ?_
   refine EQ.ret ?_
   obtain rfl := Option.some.inj H
   exact EQ.leave (.string a7) (by kernel_rfl) ⟨_, rfl, rfl, (hS.re [] [0] rfl (sub_self))⟩
  rw [if_neg a9] at H
  refine EW.skip (by kernel_rfl) ?_
  refine EQ.pop ?_
  refine EQ.code ?_
  refine EW.sq (by kernel_rfl) ?_
  obtain ⟨a3, b7, H⟩ := b1_out H
  obtain ⟨b2, H⟩ := ite_in H
  obtain ⟨a4, b8, H⟩ := b1_out H
  obtain ⟨b3, H⟩ := ite_in H
  have hS := hS.drew
  refine EW.dr (B := B) [Ass.box 59 a2 [ia a0, ib a1]] [] (by kernel_rfl) (by kernel_rfl) ?_
  have hN : Region.noSelect Cd22.r.r.l.ops = true := (by kernel_rfl)
  have hF : freeAll Cd22.r.r.l.ops = true := (by kernel_rfl)
  have hC : Core B [Ass.box 59 a2 [ia a0, ib a1]] [] _ := ⟨_, _, hS⟩
  refine ED.quick hN hF hC [0, 4] [15, 19] 8 [(15, pt a2 0), (19, pt a2 1)] (bm 10 17) (by kernel_rfl) (by kernel_rfl) ?_
  refine ED.Y hN hF hC 1 7 (bm 10 19) (by kernel_rfl) (by kernel_rfl) rfl (fun _ _ _ hS => YO.loadBox hS 0 rfl 3 0 1 (ia a0) 16 (by kernel_rfl) (by kernel_rfl) (by kernel_rfl) (by kernel_rfl)) ?_
  refine ED.Y hN hF hC 5 6 (bm 10 51) (by kernel_rfl) (by kernel_rfl) rfl (fun _ _ _ hS => YO.loadBox hS 0 rfl 21 1 1 (ib a1) 20 (by kernel_rfl) (by kernel_rfl) (by kernel_rfl) (by kernel_rfl)) ?_
  refine ED.quick hN hF hC [6] [16, 21] 5 [(16, ia a0), (21, ia (IntKind.i64.wrap a1))] (bm 10 115) (by kernel_rfl) (by kernel_rfl) ?_
  have hq := confidantref5_Name.calls b7 hS
  refine ED.one 2 4 (bm 10 119) (by kernel_rfl) (by kernel_rfl) (by kernel_rfl) (EO.callD 48 [ia a0] _ 17 (by kernel_rfl) (by kernel_rfl) (by kernel_rfl) hq ?_)
  rintro v w ⟨rfl, hS⟩
  have hC := hC.again ⟨_, _, hS⟩
  refine ⟨hC, ?_⟩
  refine ED.Y hN hF hC 3 3 (bm 10 127) (by kernel_rfl) (by kernel_rfl) rfl (fun _ _ _ hS => YO.strCat a3 (⟨#[32]⟩ : ByteArray) 18 (by kernel_rfl) (by kernel_rfl) (by kernel_rfl) b2) ?_
  have hq := confidantref5_Decimal.calls b8 hS
  refine ED.one 7 2 (bm 10 255) (by kernel_rfl) (by kernel_rfl) (by kernel_rfl) (EO.callD 49 [ia (IntKind.i64.wrap a1)] _ 22 (by kernel_rfl) (by kernel_rfl) (by kernel_rfl) hq ?_)
  rintro v w ⟨rfl, hS⟩
  have hC := hC.again ⟨_, _, hS⟩
  refine ⟨hC, ?_⟩
  refine ED.Y hN hF hC 8 1 (bm 10 511) (by kernel_rfl) (by kernel_rfl) rfl (fun _ _ _ hS => YO.strCat (a3 ++ (⟨#[32]⟩ : ByteArray)) a4 23 (by kernel_rfl) (by kernel_rfl) (by kernel_rfl) b3) ?_
  refine ED.quick hN hF hC [9] [2] 0 [(2, .string ((a3 ++ (⟨#[32]⟩ : ByteArray)) ++ a4))] (bm 10 1023) (by kernel_rfl) (by kernel_rfl) ?_
  refine ED.done (by kernel_rfl) ?_
  refine EQ.code ?_
  refine EW.ret (by kernel_rfl) ?_
  obtain rfl := Option.some.inj H
  exact EQ.leave (.string ((a3 ++ (⟨#[32]⟩ : ByteArray)) ++ a4)) (by kernel_rfl) ⟨_, rfl, rfl, (hS.re [] [0] rfl (sub_self))⟩
 rw [if_neg a8] at H
 refine EW.sq (by kernel_rfl) ?_
 refine EW.rg (by kernel_rfl) ?_
 refine EL.quick 1 [2] [(2, .string (⟨#[]⟩ : ByteArray))] (by kernel_rfl) ?_
 refine EL.done (by kernel_rfl) ?_
 refine EQ.code ?_
 refine EW.ret (by kernel_rfl) ?_
 refine EQ.ret ?_
 refine EQ.ret ?_
 obtain rfl := Option.some.inj H
 exact EQ.leave (.string (⟨#[]⟩ : ByteArray)) (by kernel_rfl) ⟨_, rfl, rfl, (hS.re [] [0] rfl (sub_self))⟩

/-! ### confidant/confidantref5.Parse: function 46 -/
def confidantref5_Parse.l2 (K : Nat) (a2 : List Int) (a3 : Int) (a0 : ByteArray) (b9 : (List Int) → Option (Int × Int × Bool)) : Nat → Int → Option (Int × Int × Bool)
 | 0, _ => none
 | n + 1, a5 => if a5 < (a2.length : Int) then (lt (confidantref5_Parse.l2 K a2 a3 a0 b9 n (IntKind.i64.wrap (a5 + 1))) fun d6 => (if 0 ≤ a5 then (lt (fun (c4 : Bool) => (if c4 = true then (b1 (confidantref5_Text.f K a3 (IntKind.i32.wrap (a2.getD a5.toNat 0))) fun (d8 : ByteArray) => (if (d8.toList == a0.toList) = true then (some (a3, IntKind.i32.wrap (a2.getD a5.toNat 0), true)) else (d6))) else (d6))) fun d7 => (if (a2.getD a5.toNat 0) ≥ (-2147483648) then (d7 (decide ((a2.getD a5.toNat 0) ≤ 2147483647))) else (d7 false))) else none)) else (b9 a2)
def confidantref5_Parse.l1 (K : Nat) (a0 : ByteArray) (b8 : Int → Option (Int × Int × Bool)) (a6 : Int) : Nat → Int → Int → Option (Int × Int × Bool)
 | 0, _, _ => none
 | n + 1, a8, a4 => lt (fun (c2 : Bool) => (if c2 = true then (lt (fun (b6 : Int) => (confidantref5_Parse.l1 K a0 b8 a6 n b6 (IntKind.i64.wrap (a4 + 1)))) fun d4 => (lt (fun (c3 : Bool) => (if c3 = true then (if 0 ≤ a4 then (if a4 < (a0.size : Int) then (lt (IntKind.i64.wrap ((IntKind.i64.wrap (10 * a8)) + (IntKind.i64.wrap (IntKind.u8.wrap ((sAt a0 a4) - 48))))) fun c8 => (d4 c8)) else none) else none) else (d4 a8))) fun d5 => (if 0 ≤ a4 then (if a4 < (a0.size : Int) then (if (sAt a0 a4) ≥ 48 then (d5 (decide ((sAt a0 a4) ≤ 57))) else (d5 false)) else none) else none))) else (b8 a8))) fun d3 => (if a4 < (a0.size : Int) then (d3 (decide (a4 < (IntKind.i64.wrap (a6 + 13))))) else (d3 false))
def confidantref5_Parse.l0 (K : Nat) (b7 : Int → Option (Int × Int × Bool)) (a0 : ByteArray) : Nat → Int → Option (Int × Int × Bool)
 | 0, _ => none
 | n + 1, a7 => lt (fun (c1 : Bool) => (if c1 = true then (confidantref5_Parse.l0 K b7 a0 n (IntKind.i64.wrap (a7 + 1))) else (b7 a7))) fun d2 => (if a7 < (a0.size : Int) then (if 0 ≤ a7 then (d2 (!(decide ((sAt a0 a7) = 32)))) else none) else (d2 false))
def confidantref5_Parse.f (K : Nat) (a0 : ByteArray) : Option (Int × Int × Bool) := lt (fun (a6 : Int) => (if 0 ≤ a6 then (if a6 ≤ (a0.size : Int) then (b2 (confidantref5_Find.f K (a0.extract 0 a6.toNat)) fun (a3 : Int) (c0 : Bool) => (if c0 = true then (lt (fun (b0 : Int) => (lt (fun (c7 : List Int) => (some (0, 0, false))) fun b9 => (lt ([b0, IntKind.i64.wrap (0 - b0)] : List Int) fun a2 => (confidantref5_Parse.l2 K a2 a3 a0 b9 K 0)))) fun b8 => (confidantref5_Parse.l1 K a0 b8 a6 K 0 (IntKind.i64.wrap (a6 + 1)))) else (some (0, 0, false)))) else none) else none)) fun b7 => (confidantref5_Parse.l0 K b7 a0 K 0)
set_option maxRecDepth 100000 in
theorem confidantref5_Parse.calls {K : Nat} {a0 : ByteArray} {b3 : Int} {b4 : Int} {b5 : Bool} {B w : World} {os : List Ass} {rs : List Ro} (H : confidantref5_Parse.f K a0 = some (b3, b4, b5)) (hS : St B w (os) (rs)) :
  Calls Tryz.prog 46 [.string a0].toArray w (fun en w' => ∃ v, en = .returned v ∧ v = .tuple #[ag [ia b3, ib b4], .bool (b5)] ∧ St B w' (os) (rs)) := by
 unfold confidantref5_Parse.f at H
 refine calls_of_EW (args := [.string a0]) (c := Cd46) 92 Tryz.func46 (by kernel_rfl) (by kernel_rfl) (by kernel_rfl) ?_
 refine EW.sq (by kernel_rfl) ?_
 refine EW.rg (by kernel_rfl) ?_
 refine EL.of (EO.alloc hS 59 (ag [ia 0, ib 0]) [ia 0, ib 0] 2 (by kernel_rfl) (by kernel_rfl) (by kernel_rfl) (by kernel_rfl) (by first | rfl | kernel_rfl) ?_)
 intro a1 w hS
 refine EL.quick 1 [0, 2] [(0, .string a0), (2, pt a1 0)] (by kernel_rfl) ?_
 refine EL.done (by kernel_rfl) ?_
 refine EQ.code ?_
 refine EW.sq (by kernel_rfl) ?_
 refine EW.rg (by kernel_rfl) ?_
 refine EL.quick 1 [0, 2, 4] [(0, .string a0), (2, pt a1 0), (4, ia 0)] (by kernel_rfl) ?_
 refine EL.done (by kernel_rfl) ?_
 refine EQ.code ?_
 obtain ⟨b7, f7, H⟩ := lt_out H
 refine EW.ct (fun a w => ∃ a6 : Int, Sat 92 [(0, .string a0), (2, pt a1 0), (4, ia a6)] a ∧ St B w (Ass.box 59 a1 [ia 0, ib 0] :: os) (rs) ∧ b7 a6 = some (b3, b4, b5)) (by kernel_rfl) ?_ (fun a w hI => ?_)
 ·refine EW.bl 0 (by kernel_rfl) ?_
  refine EW.lp (fun n a w => ∃ a7 : Int, Sat 92 [(0, .string a0), (2, pt a1 0), (4, ia a7)] a ∧ St B w (Ass.box 59 a1 [ia 0, ib 0] :: os) (rs) ∧ confidantref5_Parse.l0 K b7 a0 n a7 = some (b3, b4, b5)) K (by kernel_rfl) ?_ (fun n a w hI => ?_)
  ·refine EQ.keep [0, 2, 4] [(0, .string a0), (2, pt a1 0), (4, ia 0)] (by kernel_rfl) ?_
   exact fun a ha => ⟨0, ha, (hS.re [0] [] rfl (sub_self)), H⟩
  obtain ⟨a7, ha, hS, H⟩ := hI
  obtain _ | n := n
  ·simp [confidantref5_Parse.l0] at H
  rw [confidantref5_Parse.l0.eq_2] at H
  refine EW.at ?_ a ha
  clear ha a
  refine EW.sq (by kernel_rfl) ?_
  obtain ⟨d2, f8, H⟩ := lt_out H
  refine EW.ct (fun a w => ∃ c1 : Bool, Sat 92 [(0, .string a0), (2, pt a1 0), (4, ia a7), (21, .bool (c1))] a ∧ St B w (Ass.box 59 a1 [ia 0, ib 0] :: os) (rs) ∧ d2 c1 = some (b3, b4, b5)) (by kernel_rfl) ?_ (fun a w hI => ?_)
  ·refine EW.rg (by kernel_rfl) ?_
   refine EL.quick 5 [0, 2, 4, 16] [(0, .string a0), (2, pt a1 0), (4, ia a7), (16, .bool (decide (a7 < (a0.size : Int))))] (by kernel_rfl) ?_
   by_cases c5 : a7 < (a0.size : Int)
   ·rw [if_pos c5] at H
    refine EL.keep [0, 2, 4, 16] [(0, .string a0), (2, pt a1 0), (4, ia a7), (16, .bool (decide (a7 < (a0.size : Int))))] (by kernel_rfl) ?_
    refine EL.as' [(0, .string a0), (2, pt a1 0), (4, ia a7), (16, .bool (true))] (by simp only [sv, dec_t c5, Bool.not_true, Bool.not_false]) ?_
    refine EL.quick 2 [0, 2, 4, 16, 17, 18] [(0, .string a0), (2, pt a1 0), (4, ia a7), (16, .bool (true)), (17, .string a0), (18, ia a7)] (by kernel_rfl) ?_
    obtain ⟨f2, H⟩ := ite_in H
    refine EL.of (EO.Y (YO.strIdx a0 9 .i64 a7 19 (by kernel_rfl) (by kernel_rfl) (by kernel_rfl) (by kernel_rfl) f2 c5) ?_)
    refine EL.quick 2 [0, 2, 4, 17, 18, 19, 20, 21] [(0, .string a0), (2, pt a1 0), (4, ia a7), (17, .string a0), (18, ia a7), (19, ig (sAt a0 a7)), (20, .bool (!(decide ((sAt a0 a7) = 32)))), (21, .bool (!(decide ((sAt a0 a7) = 32))))] (by kernel_rfl) ?_
    refine EL.done (by kernel_rfl) ?_
    refine EQ.to ?_
    refine EQ.keep [0, 2, 4, 21] [(0, .string a0), (2, pt a1 0), (4, ia a7), (21, .bool (!(decide ((sAt a0 a7) = 32))))] (by kernel_rfl) ?_
    exact fun a ha => ⟨!(decide ((sAt a0 a7) = 32)), ha, (hS.re [0] [] rfl (sub_self)), H⟩
   rw [if_neg c5] at H
   refine EL.keep [0, 2, 4, 16] [(0, .string a0), (2, pt a1 0), (4, ia a7), (16, .bool (decide (a7 < (a0.size : Int))))] (by kernel_rfl) ?_
   refine EL.as' [(0, .string a0), (2, pt a1 0), (4, ia a7), (16, .bool (false))] (by simp only [sv, dec_f c5, Bool.not_true, Bool.not_false]) ?_
   refine EL.quick 5 [0, 2, 4, 21] [(0, .string a0), (2, pt a1 0), (4, ia a7), (21, .bool (false))] (by kernel_rfl) ?_
   refine EL.done (by kernel_rfl) ?_
   refine EQ.to ?_
   refine EQ.keep [0, 2, 4, 21] [(0, .string a0), (2, pt a1 0), (4, ia a7), (21, .bool (false))] (by kernel_rfl) ?_
   exact fun a ha => ⟨false, ha, (hS.re [0] [] rfl (sub_self)), H⟩
  obtain ⟨c1, ha, hS, H⟩ := hI
  rw [f8] at H
  (try dsimp only at H)
  refine EW.at ?_ a ha
  clear ha a
  refine EW.cdP' (c1) (by kernel_rfl) (by kernel_rfl) (fun e2 => ?_) (fun e2 => ?_)
  ·rw [if_pos e2] at H
   refine EW.skip (by kernel_rfl) ?_
   refine EQ.code ?_
   refine EW.bl 1 (by kernel_rfl) ?_
   refine EW.rg (by kernel_rfl) ?_
   refine EL.quick 3 [0, 2, 4] [(0, .string a0), (2, pt a1 0), (4, ia (IntKind.i64.wrap (a7 + 1)))] (by kernel_rfl) ?_
   refine EL.done (by kernel_rfl) ?_
   refine EQ.pop ?_
   refine EQ.to ?_
   refine EQ.keep [0, 2, 4] [(0, .string a0), (2, pt a1 0), (4, ia (IntKind.i64.wrap (a7 + 1)))] (by kernel_rfl) ?_
   exact fun a ha => ⟨n, Nat.lt_succ_self n, IntKind.i64.wrap (a7 + 1), ha, (hS.re [0] [] rfl (sub_self)), H⟩
  rw [if_neg e2] at H
  refine EW.exit (id := 0) (by kernel_rfl) ?_
  refine EQ.exitCode ?_
  refine EQ.exitTo ?_
  refine EQ.exitHere ?_
  refine EQ.to ?_
  refine EQ.keep [0, 2, 4] [(0, .string a0), (2, pt a1 0), (4, ia a7)] (by kernel_rfl) ?_
  exact fun a ha => ⟨a7, ha, (hS.re [0] [] rfl (sub_self)), H⟩
 obtain ⟨a6, ha, hS, H⟩ := hI
 rw [f7] at H
 (try dsimp only at H)
 refine EW.at ?_ a ha
 clear ha a
 refine EW.sq (by kernel_rfl) ?_
 refine EW.rg (by kernel_rfl) ?_
 refine EL.quick 2 [0, 2, 4, 25, 26] [(0, .string a0), (2, pt a1 0), (4, ia a6), (25, .string a0), (26, ia a6)] (by kernel_rfl) ?_
 obtain ⟨g7, H⟩ := ite_in H
 obtain ⟨g8, H⟩ := ite_in H
 refine EL.of (EO.Y (YO.strSlice a0 none (some (ia a6)) 0 a6.toNat 9 27 (by kernel_rfl) (by kernel_rfl) (by kernel_rfl) (by kernel_rfl) (rfl) ((Int.toNat_of_nonneg (by omega)).symm) (by omega) (by omega)) ?_)
 obtain ⟨a3, c0, f5, H⟩ := b2_out H
 have hq := confidantref5_Find.calls f5 hS
 refine EL.of (EO.callD 66 [.string (a0.extract 0 a6.toNat)] _ 28 (by kernel_rfl) (by kernel_rfl) (by kernel_rfl) hq ?_)
 rintro v w ⟨rfl, hS⟩
 refine EL.quick 5 [0, 2, 4, 5, 6] [(0, .string a0), (2, pt a1 0), (4, ia a6), (5, ia a3), (6, .bool (c0))] (by kernel_rfl) ?_
 refine EL.done (by kernel_rfl) ?_
 refine EQ.code ?_
 refine EW.sq (by kernel_rfl) ?_
 refine EW.sq (by kernel_rfl) ?_
 refine EW.rg (by kernel_rfl) ?_
 refine EL.quick 2 [0, 2, 4, 5, 32] [(0, .string a0), (2, pt a1 0), (4, ia a6), (5, ia a3), (32, .bool (!(c0)))] (by kernel_rfl) ?_
 refine EL.done (by kernel_rfl) ?_
 refine EQ.code ?_
 refine EW.cdQ (b := !(c0)) (c0 = true) (false) (by kernel_rfl) (by kernel_rfl) ⟨fun h => (by rw [h] <;> rfl), fun h => (by rw [Bool.eq_false_iff.2 h] <;> rfl)⟩ (fun e3 => ?_) (fun e3 => ?_)
 ·rw [if_pos e3] at H
  refine EW.skip (by kernel_rfl) ?_
  refine EQ.code ?_
  refine EW.sq (by kernel_rfl) ?_
  refine EW.rg (by kernel_rfl) ?_
  refine EL.quick 1 [0, 2, 4, 5, 7] [(0, .string a0), (2, pt a1 0), (4, ia a6), (5, ia a3), (7, ia 0)] (by kernel_rfl) ?_
  refine EL.done (by kernel_rfl) ?_
  refine EQ.code ?_
  obtain ⟨b8, f9, H⟩ := lt_out H
  refine EW.ct (fun a w => ∃ b0 : Int, Sat 92 [(0, .string a0), (2, pt a1 0), (5, ia a3), (7, ia b0)] a ∧ St B w (Ass.box 59 a1 [ia 0, ib 0] :: os) (rs) ∧ b8 b0 = some (b3, b4, b5)) (by kernel_rfl) ?_ (fun a w hI => ?_)
  ·refine EW.sq (by kernel_rfl) ?_
   refine EW.rg (by kernel_rfl) ?_
   refine EL.quick 3 [0, 2, 4, 5, 7, 8] [(0, .string a0), (2, pt a1 0), (4, ia a6), (5, ia a3), (7, ia 0), (8, ia (IntKind.i64.wrap (a6 + 1)))] (by kernel_rfl) ?_
   refine EL.done (by kernel_rfl) ?_
   refine EQ.code ?_
   refine EW.bl 2 (by kernel_rfl) ?_
   refine EW.lp (fun n a w => ∃ a8 : Int, ∃ a4 : Int, Sat 92 [(0, .string a0), (2, pt a1 0), (4, ia a6), (5, ia a3), (7, ia a8), (8, ia a4)] a ∧ St B w (Ass.box 59 a1 [ia 0, ib 0] :: os) (rs) ∧ confidantref5_Parse.l1 K a0 b8 a6 n a8 a4 = some (b3, b4, b5)) K (by kernel_rfl) ?_ (fun n a w hI => ?_)
   ·refine EQ.keep [0, 2, 4, 5, 7, 8] [(0, .string a0), (2, pt a1 0), (4, ia a6), (5, ia a3), (7, ia 0), (8, ia (IntKind.i64.wrap (a6 + 1)))] (by kernel_rfl) ?_
    exact fun a ha => ⟨0, IntKind.i64.wrap (a6 + 1), ha, (hS.re [0] [] rfl (sub_self)), H⟩
   obtain ⟨a8, a4, ha, hS, H⟩ := hI
   obtain _ | n := n
   ·simp [confidantref5_Parse.l1] at H
   rw [confidantref5_Parse.l1.eq_2] at H
   refine EW.at ?_ a ha
   clear ha a
   refine EW.sq (by kernel_rfl) ?_
   obtain ⟨d3, g0, H⟩ := lt_out H
   refine EW.ct (fun a w => ∃ c2 : Bool, Sat 92 [(0, .string a0), (2, pt a1 0), (4, ia a6), (5, ia a3), (7, ia a8), (8, ia a4), (45, .bool (c2))] a ∧ St B w (Ass.box 59 a1 [ia 0, ib 0] :: os) (rs) ∧ d3 c2 = some (b3, b4, b5)) (by kernel_rfl) ?_ (fun a w hI => ?_)
   ·refine EW.rg (by kernel_rfl) ?_
    refine EL.quick 5 [0, 2, 4, 5, 7, 8, 40] [(0, .string a0), (2, pt a1 0), (4, ia a6), (5, ia a3), (7, ia a8), (8, ia a4), (40, .bool (decide (a4 < (a0.size : Int))))] (by kernel_rfl) ?_
    by_cases c9 : a4 < (a0.size : Int)
    ·rw [if_pos c9] at H
     refine EL.keep [0, 2, 4, 5, 7, 8, 40] [(0, .string a0), (2, pt a1 0), (4, ia a6), (5, ia a3), (7, ia a8), (8, ia a4), (40, .bool (decide (a4 < (a0.size : Int))))] (by kernel_rfl) ?_
     refine EL.as' [(0, .string a0), (2, pt a1 0), (4, ia a6), (5, ia a3), (7, ia a8), (8, ia a4), (40, .bool (true))] (by simp only [sv, dec_t c9, Bool.not_true, Bool.not_false]) ?_
     refine EL.quick 5 [0, 2, 4, 5, 7, 8, 41, 42, 43, 44, 45] [(0, .string a0), (2, pt a1 0), (4, ia a6), (5, ia a3), (7, ia a8), (8, ia a4), (41, ia a4), (42, ia a6), (43, ia (IntKind.i64.wrap (a6 + 13))), (44, .bool (decide (a4 < (IntKind.i64.wrap (a6 + 13))))), (45, .bool (decide (a4 < (IntKind.i64.wrap (a6 + 13)))))] (by kernel_rfl) ?_
     refine EL.done (by kernel_rfl) ?_
     refine EQ.to ?_
     refine EQ.keep [0, 2, 4, 5, 7, 8, 45] [(0, .string a0), (2, pt a1 0), (4, ia a6), (5, ia a3), (7, ia a8), (8, ia a4), (45, .bool (decide (a4 < (IntKind.i64.wrap (a6 + 13)))))] (by kernel_rfl) ?_
     exact fun a ha => ⟨decide (a4 < (IntKind.i64.wrap (a6 + 13))), ha, (hS.re [0] [] rfl (sub_self)), H⟩
    rw [if_neg c9] at H
    refine EL.keep [0, 2, 4, 5, 7, 8, 40] [(0, .string a0), (2, pt a1 0), (4, ia a6), (5, ia a3), (7, ia a8), (8, ia a4), (40, .bool (decide (a4 < (a0.size : Int))))] (by kernel_rfl) ?_
    refine EL.as' [(0, .string a0), (2, pt a1 0), (4, ia a6), (5, ia a3), (7, ia a8), (8, ia a4), (40, .bool (false))] (by simp only [sv, dec_f c9, Bool.not_true, Bool.not_false]) ?_
    refine EL.quick 5 [0, 2, 4, 5, 7, 8, 45] [(0, .string a0), (2, pt a1 0), (4, ia a6), (5, ia a3), (7, ia a8), (8, ia a4), (45, .bool (false))] (by kernel_rfl) ?_
    refine EL.done (by kernel_rfl) ?_
    refine EQ.to ?_
    refine EQ.keep [0, 2, 4, 5, 7, 8, 45] [(0, .string a0), (2, pt a1 0), (4, ia a6), (5, ia a3), (7, ia a8), (8, ia a4), (45, .bool (false))] (by kernel_rfl) ?_
    exact fun a ha => ⟨false, ha, (hS.re [0] [] rfl (sub_self)), H⟩
   obtain ⟨c2, ha, hS, H⟩ := hI
   rw [g0] at H
   (try dsimp only at H)
   refine EW.at ?_ a ha
   clear ha a
   refine EW.cdP' (c2) (by kernel_rfl) (by kernel_rfl) (fun e4 => ?_) (fun e4 => ?_)
   ·rw [if_pos e4] at H
    refine EW.skip (by kernel_rfl) ?_
    refine EQ.code ?_
    obtain ⟨d4, g1, H⟩ := lt_out H
    refine EW.ct (fun a w => ∃ b6 : Int, Sat 92 [(0, .string a0), (2, pt a1 0), (4, ia a6), (5, ia a3), (7, ia b6), (8, ia a4)] a ∧ St B w (Ass.box 59 a1 [ia 0, ib 0] :: os) (rs) ∧ d4 b6 = some (b3, b4, b5)) (by kernel_rfl) ?_ (fun a w hI => ?_)
    ·refine EW.bl 3 (by kernel_rfl) ?_
     obtain ⟨d5, g2, H⟩ := lt_out H
     refine EW.ct (fun a w => ∃ c3 : Bool, Sat 92 [(0, .string a0), (2, pt a1 0), (4, ia a6), (5, ia a3), (7, ia a8), (8, ia a4), (57, .bool (c3))] a ∧ St B w (Ass.box 59 a1 [ia 0, ib 0] :: os) (rs) ∧ d5 c3 = some (b3, b4, b5)) (by kernel_rfl) ?_ (fun a w hI => ?_)
     ·refine EW.rg (by kernel_rfl) ?_
      refine EL.quick 2 [0, 2, 4, 5, 7, 8, 48, 49] [(0, .string a0), (2, pt a1 0), (4, ia a6), (5, ia a3), (7, ia a8), (8, ia a4), (48, .string a0), (49, ia a4)] (by kernel_rfl) ?_
      obtain ⟨e8, H⟩ := ite_in H
      obtain ⟨e9, H⟩ := ite_in H
      refine EL.of (EO.Y (YO.strIdx a0 9 .i64 a4 50 (by kernel_rfl) (by kernel_rfl) (by kernel_rfl) (by kernel_rfl) e8 e9) ?_)
      refine EL.quick 2 [0, 2, 4, 5, 7, 8, 52] [(0, .string a0), (2, pt a1 0), (4, ia a6), (5, ia a3), (7, ia a8), (8, ia a4), (52, .bool (decide ((sAt a0 a4) ≥ 48)))] (by kernel_rfl) ?_
      by_cases d0 : (sAt a0 a4) ≥ 48
      ·rw [if_pos d0] at H
       refine EL.keep [0, 2, 4, 5, 7, 8, 52] [(0, .string a0), (2, pt a1 0), (4, ia a6), (5, ia a3), (7, ia a8), (8, ia a4), (52, .bool (decide ((sAt a0 a4) ≥ 48)))] (by kernel_rfl) ?_
       refine EL.as' [(0, .string a0), (2, pt a1 0), (4, ia a6), (5, ia a3), (7, ia a8), (8, ia a4), (52, .bool (true))] (by simp only [sv, dec_t d0, Bool.not_true, Bool.not_false]) ?_
       refine EL.quick 2 [0, 2, 4, 5, 7, 8, 52, 53, 54] [(0, .string a0), (2, pt a1 0), (4, ia a6), (5, ia a3), (7, ia a8), (8, ia a4), (52, .bool (true)), (53, .string a0), (54, ia a4)] (by kernel_rfl) ?_
       refine EL.of (EO.Y (YO.strIdx a0 9 .i64 a4 55 (by kernel_rfl) (by kernel_rfl) (by kernel_rfl) (by kernel_rfl) e8 e9) ?_)
       refine EL.quick 2 [0, 2, 4, 5, 7, 8, 53, 54, 55, 56, 57] [(0, .string a0), (2, pt a1 0), (4, ia a6), (5, ia a3), (7, ia a8), (8, ia a4), (53, .string a0), (54, ia a4), (55, ig (sAt a0 a4)), (56, .bool (decide ((sAt a0 a4) ≤ 57))), (57, .bool (decide ((sAt a0 a4) ≤ 57)))] (by kernel_rfl) ?_
       refine EL.done (by kernel_rfl) ?_
       refine EQ.to ?_
       refine EQ.keep [0, 2, 4, 5, 7, 8, 57] [(0, .string a0), (2, pt a1 0), (4, ia a6), (5, ia a3), (7, ia a8), (8, ia a4), (57, .bool (decide ((sAt a0 a4) ≤ 57)))] (by kernel_rfl) ?_
       exact fun a ha => ⟨decide ((sAt a0 a4) ≤ 57), ha, (hS.re [0] [] rfl (sub_self)), H⟩
      rw [if_neg d0] at H
      refine EL.keep [0, 2, 4, 5, 7, 8, 52] [(0, .string a0), (2, pt a1 0), (4, ia a6), (5, ia a3), (7, ia a8), (8, ia a4), (52, .bool (decide ((sAt a0 a4) ≥ 48)))] (by kernel_rfl) ?_
      refine EL.as' [(0, .string a0), (2, pt a1 0), (4, ia a6), (5, ia a3), (7, ia a8), (8, ia a4), (52, .bool (false))] (by simp only [sv, dec_f d0, Bool.not_true, Bool.not_false]) ?_
      refine EL.quick 5 [0, 2, 4, 5, 7, 8, 57] [(0, .string a0), (2, pt a1 0), (4, ia a6), (5, ia a3), (7, ia a8), (8, ia a4), (57, .bool (false))] (by kernel_rfl) ?_
      refine EL.done (by kernel_rfl) ?_
      refine EQ.to ?_
      refine EQ.keep [0, 2, 4, 5, 7, 8, 57] [(0, .string a0), (2, pt a1 0), (4, ia a6), (5, ia a3), (7, ia a8), (8, ia a4), (57, .bool (false))] (by kernel_rfl) ?_
      exact fun a ha => ⟨false, ha, (hS.re [0] [] rfl (sub_self)), H⟩
     obtain ⟨c3, ha, hS, H⟩ := hI
     rw [g2] at H
     (try dsimp only at H)
     refine EW.at ?_ a ha
     clear ha a
     refine EW.cdP' (c3) (by kernel_rfl) (by kernel_rfl) (fun e5 => ?_) (fun e5 => ?_)
     ·rw [if_pos e5] at H
      refine EW.rg (by kernel_rfl) ?_
      refine EL.quick 4 [0, 2, 4, 5, 8, 59, 60, 61] [(0, .string a0), (2, pt a1 0), (4, ia a6), (5, ia a3), (8, ia a4), (59, ia (IntKind.i64.wrap (10 * a8))), (60, .string a0), (61, ia a4)] (by kernel_rfl) ?_
      obtain ⟨f3, H⟩ := ite_in H
      obtain ⟨f4, H⟩ := ite_in H
      refine EL.of (EO.Y (YO.strIdx a0 9 .i64 a4 62 (by kernel_rfl) (by kernel_rfl) (by kernel_rfl) (by kernel_rfl) f3 f4) ?_)
      refine EL.quick 4 [0, 2, 4, 5, 7, 8] [(0, .string a0), (2, pt a1 0), (4, ia a6), (5, ia a3), (7, ia (IntKind.i64.wrap ((IntKind.i64.wrap (10 * a8)) + (IntKind.i64.wrap (IntKind.u8.wrap ((sAt a0 a4) - 48)))))), (8, ia a4)] (by kernel_rfl) ?_
      obtain ⟨c8, g6, H⟩ := lt_out H
      refine EL.keep [0, 2, 4, 5, 7, 8] [(0, .string a0), (2, pt a1 0), (4, ia a6), (5, ia a3), (7, ia (IntKind.i64.wrap ((IntKind.i64.wrap (10 * a8)) + (IntKind.i64.wrap (IntKind.u8.wrap ((sAt a0 a4) - 48)))))), (8, ia a4)] (by kernel_rfl) ?_
      refine EL.as' [(0, .string a0), (2, pt a1 0), (4, ia a6), (5, ia a3), (7, ia c8), (8, ia a4)] (by subst g6; rfl) ?_
      refine EL.done (by kernel_rfl) ?_
      refine EQ.pop ?_
      refine EQ.to ?_
      refine EQ.keep [0, 2, 4, 5, 7, 8] [(0, .string a0), (2, pt a1 0), (4, ia a6), (5, ia a3), (7, ia c8), (8, ia a4)] (by kernel_rfl) ?_
      exact fun a ha => ⟨c8, ha, (hS.re [0] [] rfl (sub_self)), H⟩
     rw [if_neg e5] at H
     refine EW.skip (by kernel_rfl) ?_
     refine EQ.pop ?_
     refine EQ.to ?_
     refine EQ.keep [0, 2, 4, 5, 7, 8] [(0, .string a0), (2, pt a1 0), (4, ia a6), (5, ia a3), (7, ia a8), (8, ia a4)] (by kernel_rfl) ?_
     exact fun a ha => ⟨a8, ha, (hS.re [0] [] rfl (sub_self)), H⟩
    obtain ⟨b6, ha, hS, H⟩ := hI
    rw [g1] at H
    (try dsimp only at H)
    refine EW.at ?_ a ha
    clear ha a
    refine EW.rg (by kernel_rfl) ?_
    refine EL.quick 3 [0, 2, 4, 5, 7, 8] [(0, .string a0), (2, pt a1 0), (4, ia a6), (5, ia a3), (7, ia b6), (8, ia (IntKind.i64.wrap (a4 + 1)))] (by kernel_rfl) ?_
    refine EL.done (by kernel_rfl) ?_
    refine EQ.to ?_
    refine EQ.keep [0, 2, 4, 5, 7, 8] [(0, .string a0), (2, pt a1 0), (4, ia a6), (5, ia a3), (7, ia b6), (8, ia (IntKind.i64.wrap (a4 + 1)))] (by kernel_rfl) ?_
    exact fun a ha => ⟨n, Nat.lt_succ_self n, b6, IntKind.i64.wrap (a4 + 1), ha, (hS.re [0] [] rfl (sub_self)), H⟩
   rw [if_neg e4] at H
   refine EW.exit (id := 2) (by kernel_rfl) ?_
   refine EQ.exitCode ?_
   refine EQ.exitTo ?_
   refine EQ.exitHere ?_
   refine EQ.to ?_
   refine EQ.keep [0, 2, 5, 7] [(0, .string a0), (2, pt a1 0), (5, ia a3), (7, ia a8)] (by kernel_rfl) ?_
   exact fun a ha => ⟨a8, ha, (hS.re [0] [] rfl (sub_self)), H⟩
  obtain ⟨b0, ha, hS, H⟩ := hI
  rw [f9] at H
  (try dsimp only at H)
  refine EW.at ?_ a ha
  clear ha a
  obtain ⟨b9, g3, H⟩ := lt_out H
  refine EW.ct (fun a w => ∃ c7 : List Int, ∃ d9 : Option Addr, ∃ e0 : Nat, Sat 92 [(2, pt a1 0)] a ∧ St B w (Ass.own 2 (Kd.int .i64) d9 e0 c7 :: Ass.box 59 a1 [ia 0, ib 0] :: os) (rs) ∧ b9 c7 = some (b3, b4, b5)) (by kernel_rfl) ?_ (fun a w hI => ?_)
  ·refine EW.sq (by kernel_rfl) ?_
   refine EW.rg (by kernel_rfl) ?_
   refine EL.quick 3 [0, 2, 5, 66, 68] [(0, .string a0), (2, pt a1 0), (5, ia a3), (66, ia b0), (68, ia (IntKind.i64.wrap (0 - b0)))] (by kernel_rfl) ?_
   obtain ⟨a2, f1, H⟩ := lt_out H
   refine EL.of (EO.lit hS (Kd.int .i64) 2 107 2 #[(0, ia b0), (1, ia (IntKind.i64.wrap (0 - b0)))] [ia b0, ia (IntKind.i64.wrap (0 - b0))] a2 69 (by kernel_rfl) (by kernel_rfl) (by kernel_rfl) (fun _ => (by kernel_rfl)) (by rw [f1]; rfl) (by kernel_rfl) (fun w G hr => (by rw [f1]; exact ⟨[ia b0], [ia (IntKind.i64.wrap (0 - b0))], rfl, rfl, ⟨[ia (IntKind.i64.wrap (0 - b0))], [], rfl, rfl, rfl⟩⟩)) ?_)
   intro a9 w hS
   refine EL.quick 2 [0, 2, 5, 69, 70, 71] [(0, .string a0), (2, pt a1 0), (5, ia a3), (69, sv (some ⟨a9, 0, none⟩) 2 a2), (70, ia (a2.length : Int)), (71, ia 0)] (by kernel_rfl) ?_
   refine EL.done (by kernel_rfl) ?_
   refine EQ.code ?_
   refine EW.bl 4 (by kernel_rfl) ?_
   refine EW.lp (fun n a w => ∃ a5 : Int, Sat 92 [(0, .string a0), (2, pt a1 0), (5, ia a3), (69, sv (some ⟨a9, 0, none⟩) 2 a2), (70, ia (a2.length : Int)), (71, ia a5)] a ∧ St B w (Ass.own 2 (Kd.int .i64) (some ⟨a9, 0, none⟩) 2 a2 :: Ass.box 59 a1 [ia 0, ib 0] :: os) (rs) ∧ confidantref5_Parse.l2 K a2 a3 a0 b9 n a5 = some (b3, b4, b5)) K (by kernel_rfl) ?_ (fun n a w hI => ?_)
   ·refine EQ.keep [0, 2, 5, 69, 70, 71] [(0, .string a0), (2, pt a1 0), (5, ia a3), (69, sv (some ⟨a9, 0, none⟩) 2 a2), (70, ia (a2.length : Int)), (71, ia 0)] (by kernel_rfl) ?_
    exact fun a ha => ⟨0, ha, (hS.re [1, 1] [] rfl (sub_self)), H⟩
   obtain ⟨a5, ha, hS, H⟩ := hI
   obtain _ | n := n
   ·simp [confidantref5_Parse.l2] at H
   rw [confidantref5_Parse.l2.eq_2] at H
   refine EW.at ?_ a ha
   clear ha a
   refine EW.sq (by kernel_rfl) ?_
   refine EW.rg (by kernel_rfl) ?_
   refine EL.quick 1 [0, 2, 5, 69, 70, 71, 72] [(0, .string a0), (2, pt a1 0), (5, ia a3), (69, sv (some ⟨a9, 0, none⟩) 2 a2), (70, ia (a2.length : Int)), (71, ia a5), (72, .bool (decide (a5 < (a2.length : Int))))] (by kernel_rfl) ?_
   refine EL.done (by kernel_rfl) ?_
   refine EQ.code ?_
   refine EW.sq (by kernel_rfl) ?_
   refine EW.cdP (a5 < (a2.length : Int)) (by kernel_rfl) (by kernel_rfl) (fun c6 => ?_) (fun c6 => ?_)
   ·rw [if_pos c6] at H
    refine EW.skip (by kernel_rfl) ?_
    refine EQ.code ?_
    obtain ⟨d6, g4, H⟩ := lt_out H
    refine EW.ct (fun a w => Sat 92 [(0, .string a0), (2, pt a1 0), (5, ia a3), (69, sv (some ⟨a9, 0, none⟩) 2 a2), (70, ia (a2.length : Int)), (71, ia a5)] a ∧ St B w (Ass.own 2 (Kd.int .i64) (some ⟨a9, 0, none⟩) 2 a2 :: Ass.box 59 a1 [ia 0, ib 0] :: os) (rs) ∧ d6 = some (b3, b4, b5)) (by kernel_rfl) ?_ (fun a w hI => ?_)
    ·refine EW.bl 5 (by kernel_rfl) ?_
     refine EW.sq (by kernel_rfl) ?_
     refine EW.rg (by kernel_rfl) ?_
     obtain ⟨f0, H⟩ := ite_in H
     refine EL.of (EO.Y (YO.idx 107 1 ⟨a9, 0, none⟩ a2.length 2 .i64 a5 73 (by kernel_rfl) (by kernel_rfl) (by kernel_rfl) (by kernel_rfl) f0 c6) ?_)
     refine EL.of (EO.Y (YO.loadEl hS (Kd.int .i64) ⟨a9, 0, none⟩ 2 a2 (Rd.own 0 2 rfl) 0 (encI .i64) encI_of a5 f0 c6 2 1 0 1 rfl (ia (a2.getD a5.toNat 0)) 74 (by kernel_rfl) (by kernel_rfl) (by kernel_rfl) (by kernel_rfl)) ?_)
     refine EL.quick 1 [0, 2, 5, 10, 69, 70, 71] [(0, .string a0), (2, pt a1 0), (5, ia a3), (10, ia (a2.getD a5.toNat 0)), (69, sv (some ⟨a9, 0, none⟩) 2 a2), (70, ia (a2.length : Int)), (71, ia a5)] (by kernel_rfl) ?_
     refine EL.done (by kernel_rfl) ?_
     refine EQ.code ?_
     obtain ⟨d7, g5, H⟩ := lt_out H
     refine EW.ct (fun a w => ∃ c4 : Bool, Sat 92 [(0, .string a0), (2, pt a1 0), (5, ia a3), (10, ia (a2.getD a5.toNat 0)), (69, sv (some ⟨a9, 0, none⟩) 2 a2), (70, ia (a2.length : Int)), (71, ia a5), (80, .bool (c4))] a ∧ St B w (Ass.own 2 (Kd.int .i64) (some ⟨a9, 0, none⟩) 2 a2 :: Ass.box 59 a1 [ia 0, ib 0] :: os) (rs) ∧ d7 c4 = some (b3, b4, b5)) (by kernel_rfl) ?_ (fun a w hI => ?_)
     ·refine EW.rg (by kernel_rfl) ?_
      refine EL.quick 3 [0, 2, 5, 10, 69, 70, 71, 77] [(0, .string a0), (2, pt a1 0), (5, ia a3), (10, ia (a2.getD a5.toNat 0)), (69, sv (some ⟨a9, 0, none⟩) 2 a2), (70, ia (a2.length : Int)), (71, ia a5), (77, .bool (decide ((a2.getD a5.toNat 0) ≥ (-2147483648))))] (by kernel_rfl) ?_
      by_cases d1 : (a2.getD a5.toNat 0) ≥ (-2147483648)
      ·rw [if_pos d1] at H
       refine EL.keep [0, 2, 5, 10, 69, 70, 71, 77] [(0, .string a0), (2, pt a1 0), (5, ia a3), (10, ia (a2.getD a5.toNat 0)), (69, sv (some ⟨a9, 0, none⟩) 2 a2), (70, ia (a2.length : Int)), (71, ia a5), (77, .bool (decide ((a2.getD a5.toNat 0) ≥ (-2147483648))))] (by kernel_rfl) ?_
       refine EL.as' [(0, .string a0), (2, pt a1 0), (5, ia a3), (10, ia (a2.getD a5.toNat 0)), (69, sv (some ⟨a9, 0, none⟩) 2 a2), (70, ia (a2.length : Int)), (71, ia a5), (77, .bool (true))] (by simp only [sv, dec_t d1, Bool.not_true, Bool.not_false]) ?_
       refine EL.quick 3 [0, 2, 5, 10, 69, 70, 71, 78, 79, 80] [(0, .string a0), (2, pt a1 0), (5, ia a3), (10, ia (a2.getD a5.toNat 0)), (69, sv (some ⟨a9, 0, none⟩) 2 a2), (70, ia (a2.length : Int)), (71, ia a5), (78, ia (a2.getD a5.toNat 0)), (79, .bool (decide ((a2.getD a5.toNat 0) ≤ 2147483647))), (80, .bool (decide ((a2.getD a5.toNat 0) ≤ 2147483647)))] (by kernel_rfl) ?_
       refine EL.done (by kernel_rfl) ?_
       refine EQ.to ?_
       refine EQ.keep [0, 2, 5, 10, 69, 70, 71, 80] [(0, .string a0), (2, pt a1 0), (5, ia a3), (10, ia (a2.getD a5.toNat 0)), (69, sv (some ⟨a9, 0, none⟩) 2 a2), (70, ia (a2.length : Int)), (71, ia a5), (80, .bool (decide ((a2.getD a5.toNat 0) ≤ 2147483647)))] (by kernel_rfl) ?_
       exact fun a ha => ⟨decide ((a2.getD a5.toNat 0) ≤ 2147483647), ha, (hS.re [1, 1] [] rfl (sub_self)), H⟩
      rw [if_neg d1] at H
      refine EL.keep [0, 2, 5, 10, 69, 70, 71, 77] [(0, .string a0), (2, pt a1 0), (5, ia a3), (10, ia (a2.getD a5.toNat 0)), (69, sv (some ⟨a9, 0, none⟩) 2 a2), (70, ia (a2.length : Int)), (71, ia a5), (77, .bool (decide ((a2.getD a5.toNat 0) ≥ (-2147483648))))] (by kernel_rfl) ?_
      refine EL.as' [(0, .string a0), (2, pt a1 0), (5, ia a3), (10, ia (a2.getD a5.toNat 0)), (69, sv (some ⟨a9, 0, none⟩) 2 a2), (70, ia (a2.length : Int)), (71, ia a5), (77, .bool (false))] (by simp only [sv, dec_f d1, Bool.not_true, Bool.not_false]) ?_
      refine EL.quick 3 [0, 2, 5, 10, 69, 70, 71, 80] [(0, .string a0), (2, pt a1 0), (5, ia a3), (10, ia (a2.getD a5.toNat 0)), (69, sv (some ⟨a9, 0, none⟩) 2 a2), (70, ia (a2.length : Int)), (71, ia a5), (80, .bool (false))] (by kernel_rfl) ?_
      refine EL.done (by kernel_rfl) ?_
      refine EQ.to ?_
      refine EQ.keep [0, 2, 5, 10, 69, 70, 71, 80] [(0, .string a0), (2, pt a1 0), (5, ia a3), (10, ia (a2.getD a5.toNat 0)), (69, sv (some ⟨a9, 0, none⟩) 2 a2), (70, ia (a2.length : Int)), (71, ia a5), (80, .bool (false))] (by kernel_rfl) ?_
      exact fun a ha => ⟨false, ha, (hS.re [1, 1] [] rfl (sub_self)), H⟩
     obtain ⟨c4, ha, hS, H⟩ := hI
     rw [g5] at H
     (try dsimp only at H)
     refine EW.at ?_ a ha
     clear ha a
     refine EW.cdP' (c4) (by kernel_rfl) (by kernel_rfl) (fun e6 => ?_) (fun e6 => ?_)
     ·rw [if_pos e6] at H
      refine EW.sq (by kernel_rfl) ?_
      refine EW.rg (by kernel_rfl) ?_
      refine EL.quick 4 [0, 2, 5, 69, 70, 71, 84] [(0, .string a0), (2, pt a1 0), (5, ia a3), (69, sv (some ⟨a9, 0, none⟩) 2 a2), (70, ia (a2.length : Int)), (71, ia a5), (84, ag [ia a3, ib (IntKind.i32.wrap (a2.getD a5.toNat 0))])] (by kernel_rfl) ?_
      refine EL.of (EO.alloc hS 59 (ag [ia 0, ib 0]) [ia 0, ib 0] 11 (by kernel_rfl) (by kernel_rfl) (by kernel_rfl) (by kernel_rfl) (by first | rfl | kernel_rfl) ?_)
      intro e1 w hS
      refine EL.of (EO.storeBox (os' := Ass.box 59 e1 [ia a3, ib (IntKind.i32.wrap (a2.getD a5.toNat 0))] :: Ass.own 2 (Kd.int .i64) (some ⟨a9, 0, none⟩) 2 a2 :: Ass.box 59 a1 [ia 0, ib 0] :: os) hS 0 rfl 59 0 (ag [ia a3, ib (IntKind.i32.wrap (a2.getD a5.toNat 0))]) [ia a3, ib (IntKind.i32.wrap (a2.getD a5.toNat 0))] (by kernel_rfl) (by kernel_rfl) (by kernel_rfl) (by kernel_rfl) (by kernel_rfl) (by kernel_rfl) rfl rfl ?_)
      intro w hS
      refine EL.done (by kernel_rfl) ?_
      refine EQ.code ?_
      refine EW.sq (by kernel_rfl) ?_
      refine EW.rg (by kernel_rfl) ?_
      refine EL.of (EO.Y (YO.loadBox hS 0 rfl 59 0 2 (ag [ia a3, ib (IntKind.i32.wrap (a2.getD a5.toNat 0))]) 85 (by kernel_rfl) (by kernel_rfl) (by kernel_rfl) (by kernel_rfl)) ?_)
      obtain ⟨d8, f6, H⟩ := b1_out H
      have hq := confidantref5_Text.calls f6 hS
      refine EL.of (EO.callD 22 [ag [ia a3, ib (IntKind.i32.wrap (a2.getD a5.toNat 0))]] _ 86 (by kernel_rfl) (by kernel_rfl) (by kernel_rfl) hq ?_)
      rintro v w ⟨rfl, hS⟩
      refine EL.quick 2 [0, 2, 5, 11, 69, 70, 71, 88] [(0, .string a0), (2, pt a1 0), (5, ia a3), (11, pt e1 0), (69, sv (some ⟨a9, 0, none⟩) 2 a2), (70, ia (a2.length : Int)), (71, ia a5), (88, .bool ((d8.toList == a0.toList)))] (by kernel_rfl) ?_
      refine EL.done (by kernel_rfl) ?_
      refine EQ.code ?_
      refine EW.cdP' ((d8.toList == a0.toList)) (by kernel_rfl) (by kernel_rfl) (fun e7 => ?_) (fun e7 => ?_)
      ·rw [if_pos e7] at H
       refine EW.sq (by kernel_rfl) ?_
       refine EW.rg (by kernel_rfl) ?_
       refine EL.of (EO.Y (YO.loadBox hS 0 rfl 59 0 2 (ag [ia a3, ib (IntKind.i32.wrap (a2.getD a5.toNat 0))]) 89 (by kernel_rfl) (by kernel_rfl) (by kernel_rfl) (by kernel_rfl)) ?_)
       refine EL.of (EO.storeBox (os' := Ass.box 59 e1 [ia a3, ib (IntKind.i32.wrap (a2.getD a5.toNat 0))] :: Ass.own 2 (Kd.int .i64) (some ⟨a9, 0, none⟩) 2 a2 :: Ass.box 59 a1 [ia a3, ib (IntKind.i32.wrap (a2.getD a5.toNat 0))] :: os) hS 2 rfl 59 0 (ag [ia a3, ib (IntKind.i32.wrap (a2.getD a5.toNat 0))]) [ia a3, ib (IntKind.i32.wrap (a2.getD a5.toNat 0))] (by kernel_rfl) (by kernel_rfl) (by kernel_rfl) (by kernel_rfl) (by kernel_rfl) (by kernel_rfl) rfl rfl ?_)
       intro w hS
       refine EL.quick 1 [2, 3] [(2, pt a1 0), (3, .bool (true))] (by kernel_rfl) ?_
       refine EL.done (by kernel_rfl) ?_
       refine EQ.code ?_
       refine EW.ret (by kernel_rfl) ?_
       refine EQ.ret ?_
       refine EQ.ret ?_
       refine EQ.ret ?_
       refine EQ.ret ?_
       refine EQ.ret ?_
       simp only [sv, Option.some.injEq, Prod.mk.injEq] at H
       obtain ⟨rfl, rfl, rfl⟩ := H
       exact EQ.leave2 hS (.cell 2 59) (.tmp 3) (ag [ia a3, ib (IntKind.i32.wrap (a2.getD a5.toNat 0))]) (.bool (true)) (by kernel_rfl) ⟨2, 59, a1, [ia a3, ib (IntKind.i32.wrap (a2.getD a5.toNat 0))], 0, 2, rfl, (by kernel_rfl), (by kernel_rfl)⟩ (oneTmp (by kernel_rfl)) ⟨_, rfl, rfl, (hS.re [] [0, 0, 0] rfl (sub_self))⟩
      rw [if_neg e7] at H
      refine EW.skip (by kernel_rfl) ?_
      refine EQ.pop ?_
      refine EQ.to ?_
      refine EQ.keep [0, 2, 5, 69, 70, 71] [(0, .string a0), (2, pt a1 0), (5, ia a3), (69, sv (some ⟨a9, 0, none⟩) 2 a2), (70, ia (a2.length : Int)), (71, ia a5)] (by kernel_rfl) ?_
      exact fun a ha => ⟨ha, (hS.re [2, 2] [2] rfl (sub_self)), H⟩
     rw [if_neg e6] at H
     refine EW.skip (by kernel_rfl) ?_
     refine EQ.pop ?_
     refine EQ.to ?_
     refine EQ.keep [0, 2, 5, 69, 70, 71] [(0, .string a0), (2, pt a1 0), (5, ia a3), (69, sv (some ⟨a9, 0, none⟩) 2 a2), (70, ia (a2.length : Int)), (71, ia a5)] (by kernel_rfl) ?_
     exact fun a ha => ⟨ha, (hS.re [1, 1] [] rfl (sub_self)), H⟩
    obtain ⟨ha, hS, H⟩ := hI
    rw [g4] at H
    (try dsimp only at H)
    refine EW.at ?_ a ha
    clear ha a
    refine EW.rg (by kernel_rfl) ?_
    refine EL.quick 2 [0, 2, 5, 69, 70, 71] [(0, .string a0), (2, pt a1 0), (5, ia a3), (69, sv (some ⟨a9, 0, none⟩) 2 a2), (70, ia (a2.length : Int)), (71, ia (IntKind.i64.wrap (a5 + 1)))] (by kernel_rfl) ?_
    refine EL.done (by kernel_rfl) ?_
    refine EQ.to ?_
    refine EQ.keep [0, 2, 5, 69, 70, 71] [(0, .string a0), (2, pt a1 0), (5, ia a3), (69, sv (some ⟨a9, 0, none⟩) 2 a2), (70, ia (a2.length : Int)), (71, ia (IntKind.i64.wrap (a5 + 1)))] (by kernel_rfl) ?_
    exact fun a ha => ⟨n, Nat.lt_succ_self n, IntKind.i64.wrap (a5 + 1), ha, (hS.re [1, 1] [] rfl (sub_self)), H⟩
   rw [if_neg c6] at H
   refine EW.exit (id := 4) (by kernel_rfl) ?_
   refine EQ.exitCode ?_
   refine EQ.exitTo ?_
   refine EQ.exitHere ?_
   refine EQ.to ?_
   refine EQ.keep [2] [(2, pt a1 0)] (by kernel_rfl) ?_
   exact fun a ha => ⟨a2, (some ⟨a9, 0, none⟩), 2, ha, (hS.re [1, 1] [] rfl (sub_self)), H⟩
  obtain ⟨c7, d9, e0, ha, hS, H⟩ := hI
  rw [g3] at H
  (try dsimp only at H)
  refine EW.at ?_ a ha
  clear ha a
  refine EW.sq (by kernel_rfl) ?_
  refine EW.rg (by kernel_rfl) ?_
  refine EL.quick 1 [2, 91] [(2, pt a1 0), (91, ag [ia 0, ib 0])] (by kernel_rfl) ?_
  refine EL.of (EO.storeBox (os' := Ass.own 2 (Kd.int .i64) d9 e0 c7 :: Ass.box 59 a1 [ia 0, ib 0] :: os) hS 1 rfl 59 0 (ag [ia 0, ib 0]) [ia 0, ib 0] (by kernel_rfl) (by kernel_rfl) (by kernel_rfl) (by kernel_rfl) (by kernel_rfl) (by kernel_rfl) rfl rfl ?_)
  intro w hS
  refine EL.quick 1 [2, 3] [(2, pt a1 0), (3, .bool (false))] (by kernel_rfl) ?_
  refine EL.done (by kernel_rfl) ?_
  refine EQ.code ?_
  refine EW.ret (by kernel_rfl) ?_
  simp only [sv, Option.some.injEq, Prod.mk.injEq] at H
  obtain ⟨rfl, rfl, rfl⟩ := H
  exact EQ.leave2 hS (.cell 2 59) (.tmp 3) (ag [ia 0, ib 0]) (.bool (false)) (by kernel_rfl) ⟨1, 59, a1, [ia 0, ib 0], 0, 2, rfl, (by kernel_rfl), (by kernel_rfl)⟩ (oneTmp (by kernel_rfl)) ⟨_, rfl, rfl, (hS.re [] [0, 0] rfl (sub_self))⟩
 rw [if_neg e3] at H
 refine EW.sq (by kernel_rfl) ?_
 refine EW.rg (by kernel_rfl) ?_
 refine EL.quick 1 [2, 33] [(2, pt a1 0), (33, ag [ia 0, ib 0])] (by kernel_rfl) ?_
 refine EL.of (EO.storeBox (os' := Ass.box 59 a1 [ia 0, ib 0] :: os) hS 0 rfl 59 0 (ag [ia 0, ib 0]) [ia 0, ib 0] (by kernel_rfl) (by kernel_rfl) (by kernel_rfl) (by kernel_rfl) (by kernel_rfl) (by kernel_rfl) rfl rfl ?_)
 intro w hS
 refine EL.quick 1 [2, 3] [(2, pt a1 0), (3, .bool (false))] (by kernel_rfl) ?_
 refine EL.done (by kernel_rfl) ?_
 refine EQ.code ?_
 refine EW.ret (by kernel_rfl) ?_
 refine EQ.ret ?_
 simp only [sv, Option.some.injEq, Prod.mk.injEq] at H
 obtain ⟨rfl, rfl, rfl⟩ := H
 exact EQ.leave2 hS (.cell 2 59) (.tmp 3) (ag [ia 0, ib 0]) (.bool (false)) (by kernel_rfl) ⟨0, 59, a1, [ia 0, ib 0], 0, 2, rfl, (by kernel_rfl), (by kernel_rfl)⟩ (oneTmp (by kernel_rfl)) ⟨_, rfl, rfl, (hS.re [] [0] rfl (sub_self))⟩

/-! ### confidant/confidantref5.ImageParse: function 21 -/
def confidantref5_ImageParse.l0 (K : Nat) (a1 : ByteArray) (c4 : (List (List S59)) → Option (List (List S59) × Int × Int)) : Nat → (List (List S59)) → Int → Int → Int → Option (List (List S59) × Int × Int)
 | 0, _, _, _, _ => none
 | n + 1, a0, a4, a6, a2 => if a2 ≤ (a1.size : Int) then (lt (fun (b9 : List (List S59)) (c2 : Int) (c3 : Int) => (confidantref5_ImageParse.l0 K a1 c4 n b9 c2 c3 (IntKind.i64.wrap (a2 + 1)))) fun e9 => (lt (fun (d8 : Bool) => (if d8 = true then (e9 a0 a4 a6) else (if 0 ≤ a6 then (if a6 ≤ a2 then (b3 (confidantref5_Parse.f K (a1.extract a6.toNat a2.toNat)) fun (b0 : Int) (a9 : Int) (b1 : Bool) => (lt (fun (c0 : List (List S59)) => (e9 c0 (IntKind.i64.wrap (a4 + 1)) (IntKind.i64.wrap (a2 + 1)))) fun e4 => (if ((a1.extract a6.toNat a2.toNat).toList == (⟨#[]⟩ : ByteArray).toList) = true then (e4 a0) else (lt (fun (d9 : Bool) => (if d9 = true then (some (([] : List (List S59)), a4, 22)) else (if ((a1.extract a6.toNat a2.toNat).toList == (⟨#[102, 117, 110, 99]⟩ : ByteArray).toList) = true then (if (a0.length + ([([] : List S59)] : List (List S59)).length) * 24 ≤ 140737488355328 then (lt (a0 ++ ([([] : List S59)] : List (List S59))) fun c5 => (e4 c5)) else none) else (lt (fun (e0 : Bool) => (if e0 = true then (some (([] : List (List S59)), a4, 24)) else (if 0 ≤ (IntKind.i64.wrap ((a0.length : Int) - 1)) then (if (IntKind.i64.wrap ((a0.length : Int) - 1)) < (a0.length : Int) then (if ((a0.getD (IntKind.i64.wrap ((a0.length : Int) - 1)).toNat []).length : Int) = 512 then (some (([] : List (List S59)), a4, 22)) else (lt ([(⟨b0, a9⟩ : S59)] : List S59) fun b4 => (if ((a0.getD (IntKind.i64.wrap ((a0.length : Int) - 1)).toNat []).length + b4.length) * 16 ≤ 140737488355328 then (lt ((a0.getD (IntKind.i64.wrap ((a0.length : Int) - 1)).toNat []) ++ b4) fun d7 => (lt (a0.set (IntKind.i64.wrap ((a0.length : Int) - 1)).toNat d7) fun b2 => (e4 b2))) else none))) else none) else none))) fun f2 => (if b1 = true then (f2 (decide ((a0.length : Int) = 0))) else (f2 true)))))) fun f1 => (if ((a1.extract a6.toNat a2.toNat).toList == (⟨#[102, 117, 110, 99]⟩ : ByteArray).toList) = true then (f1 (decide ((a0.length : Int) = 64))) else (f1 false)))))) else none) else none))) fun f0 => (if a2 < (a1.size : Int) then (if 0 ≤ a2 then (f0 (!(decide ((sAt a1 a2) = 10)))) else none) else (f0 false)))) else (c4 a0)
def confidantref5_ImageParse.f (K : Nat) (a1 : ByteArray) : Option (List (List S59) × Int × Int) := lt (fun (c1 : List (List S59)) => (some (c1, 0, 0))) fun c4 => (confidantref5_ImageParse.l0 K a1 c4 K ([] : List (List S59)) 0 0 0)
set_option maxRecDepth 100000 in
theorem confidantref5_ImageParse.calls {K : Nat} {a1 : ByteArray} {b6 : List (List S59)} {b7 : Int} {b8 : Int} {B w : World} {os : List Ass} {rs : List Ro} (H : confidantref5_ImageParse.f K a1 = some (b6, b7, b8)) (hS : St B w (os) (rs)) :
  Calls Tryz.prog 21 [.string a1].toArray w (fun en w' => ∃ v, en = .returned v ∧ ∃ g0 : Option Addr, ∃ g4 : Nat, v = .tuple #[sv g0 g4 b6, ia b7, ia b8] ∧ St B w' (Ass.deep 56 59 kS59 g0 g4 b6 :: os) (rs)) := by
 unfold confidantref5_ImageParse.f at H
 refine calls_of_EW (args := [.string a1]) (c := Cd21) 91 Tryz.func21 (by kernel_rfl) (by kernel_rfl) (by kernel_rfl) ?_
 refine EW.sq (by kernel_rfl) ?_
 refine EW.rg (by kernel_rfl) ?_
 refine EL.quick 3 [0] [(0, .string a1)] (by kernel_rfl) ?_
 refine EL.done (by kernel_rfl) ?_
 refine EQ.code ?_
 refine EW.sq (by kernel_rfl) ?_
 refine EW.rg (by kernel_rfl) ?_
 refine EL.quick 1 [0, 5] [(0, .string a1), (5, sv none 0 ([] : List (List S59)))] (by kernel_rfl) ?_
 refine EL.done (by kernel_rfl) ?_
 refine EQ.code ?_
 refine EW.sq (by kernel_rfl) ?_
 refine EW.rg (by kernel_rfl) ?_
 refine EL.quick 2 [0, 5, 6, 7] [(0, .string a1), (5, sv none 0 ([] : List (List S59))), (6, ia 0), (7, ia 0)] (by kernel_rfl) ?_
 refine EL.done (by kernel_rfl) ?_
 refine EQ.code ?_
 obtain ⟨c4, i4, H⟩ := lt_out H
 refine EW.ct (fun a w => ∃ c1 : List (List S59), ∃ c6 : Option Addr, ∃ d0 : Nat, Sat 91 [(5, sv c6 d0 c1)] a ∧ St B w (Ass.deep 56 59 kS59 c6 d0 c1 :: os) (rs) ∧ c4 c1 = some (b6, b7, b8)) (by kernel_rfl) ?_ (fun a w hI => ?_)
 ·refine EW.sq (by kernel_rfl) ?_
  refine EW.rg (by kernel_rfl) ?_
  refine EL.quick 1 [0, 5, 6, 7, 8] [(0, .string a1), (5, sv none 0 ([] : List (List S59))), (6, ia 0), (7, ia 0), (8, ia 0)] (by kernel_rfl) ?_
  refine EL.done (by kernel_rfl) ?_
  refine EQ.code ?_
  refine EW.bl 0 (by kernel_rfl) ?_
  have hS := St.nilDeep hS 56 59 kS59
  refine EW.lp (fun n a w => ∃ a0 : List (List S59), ∃ a4 : Int, ∃ a6 : Int, ∃ a2 : Int, ∃ a5 : Option Addr, ∃ a3 : Nat, Sat 91 [(0, .string a1), (5, sv a5 a3 a0), (6, ia a4), (7, ia a6), (8, ia a2)] a ∧ St B w (Ass.deep 56 59 kS59 a5 a3 a0 :: os) (rs) ∧ confidantref5_ImageParse.l0 K a1 c4 n a0 a4 a6 a2 = some (b6, b7, b8)) K (by kernel_rfl) ?_ (fun n a w hI => ?_)
  ·refine EQ.keep [0, 5, 6, 7, 8] [(0, .string a1), (5, sv none 0 ([] : List (List S59))), (6, ia 0), (7, ia 0), (8, ia 0)] (by kernel_rfl) ?_
   exact fun a ha => ⟨([] : List (List S59)), 0, 0, 0, none, 0, ha, (hS.re [0] [] rfl (sub_self)), H⟩
  obtain ⟨a0, a4, a6, a2, a5, a3, ha, hS, H⟩ := hI
  obtain _ | n := n
  ·simp [confidantref5_ImageParse.l0] at H
  rw [confidantref5_ImageParse.l0.eq_2] at H
  refine EW.at ?_ a ha
  clear ha a
  refine EW.sq (by kernel_rfl) ?_
  refine EW.sq (by kernel_rfl) ?_
  refine EW.rg (by kernel_rfl) ?_
  refine EL.quick 4 [0, 5, 6, 7, 8, 16] [(0, .string a1), (5, sv a5 a3 a0), (6, ia a4), (7, ia a6), (8, ia a2), (16, .bool (decide (a2 ≤ (a1.size : Int))))] (by kernel_rfl) ?_
  refine EL.done (by kernel_rfl) ?_
  refine EQ.code ?_
  refine EW.cdP (a2 ≤ (a1.size : Int)) (by kernel_rfl) (by kernel_rfl) (fun f3 => ?_) (fun f3 => ?_)
  ·rw [if_pos f3] at H
   refine EW.skip (by kernel_rfl) ?_
   refine EQ.code ?_
   obtain ⟨e9, i5, H⟩ := lt_out H
   refine EW.ct (fun a w => ∃ b9 : List (List S59), ∃ c2 : Int, ∃ c3 : Int, ∃ c7 : Option Addr, ∃ d1 : Nat, Sat 91 [(0, .string a1), (5, sv c7 d1 b9), (6, ia c2), (7, ia c3), (8, ia a2)] a ∧ St B w (Ass.deep 56 59 kS59 c7 d1 b9 :: os) (rs) ∧ e9 b9 c2 c3 = some (b6, b7, b8)) (by kernel_rfl) ?_ (fun a w hI => ?_)
   ·refine EW.bl 1 (by kernel_rfl) ?_
    refine EW.sq (by kernel_rfl) ?_
    obtain ⟨f0, i6, H⟩ := lt_out H
    refine EW.ct (fun a w => ∃ d8 : Bool, Sat 91 [(0, .string a1), (5, sv a5 a3 a0), (6, ia a4), (7, ia a6), (8, ia a2), (28, .bool (d8))] a ∧ St B w (Ass.deep 56 59 kS59 a5 a3 a0 :: os) (rs) ∧ f0 d8 = some (b6, b7, b8)) (by kernel_rfl) ?_ (fun a w hI => ?_)
    ·refine EW.rg (by kernel_rfl) ?_
     refine EL.quick 5 [0, 5, 6, 7, 8, 23] [(0, .string a1), (5, sv a5 a3 a0), (6, ia a4), (7, ia a6), (8, ia a2), (23, .bool (decide (a2 < (a1.size : Int))))] (by kernel_rfl) ?_
     by_cases e3 : a2 < (a1.size : Int)
     ·rw [if_pos e3] at H
      refine EL.keep [0, 5, 6, 7, 8, 23] [(0, .string a1), (5, sv a5 a3 a0), (6, ia a4), (7, ia a6), (8, ia a2), (23, .bool (decide (a2 < (a1.size : Int))))] (by kernel_rfl) ?_
      refine EL.as' [(0, .string a1), (5, sv a5 a3 a0), (6, ia a4), (7, ia a6), (8, ia a2), (23, .bool (true))] (by simp only [sv, dec_t e3, Bool.not_true, Bool.not_false]) ?_
      refine EL.quick 2 [0, 5, 6, 7, 8, 23, 24, 25] [(0, .string a1), (5, sv a5 a3 a0), (6, ia a4), (7, ia a6), (8, ia a2), (23, .bool (true)), (24, .string a1), (25, ia a2)] (by kernel_rfl) ?_
      obtain ⟨i1, H⟩ := ite_in H
      refine EL.of (EO.Y (YO.strIdx a1 9 .i64 a2 26 (by kernel_rfl) (by kernel_rfl) (by kernel_rfl) (by kernel_rfl) i1 e3) ?_)
      refine EL.quick 2 [0, 5, 6, 7, 8, 24, 25, 26, 27, 28] [(0, .string a1), (5, sv a5 a3 a0), (6, ia a4), (7, ia a6), (8, ia a2), (24, .string a1), (25, ia a2), (26, ig (sAt a1 a2)), (27, .bool (!(decide ((sAt a1 a2) = 10)))), (28, .bool (!(decide ((sAt a1 a2) = 10))))] (by kernel_rfl) ?_
      refine EL.done (by kernel_rfl) ?_
      refine EQ.to ?_
      refine EQ.keep [0, 5, 6, 7, 8, 28] [(0, .string a1), (5, sv a5 a3 a0), (6, ia a4), (7, ia a6), (8, ia a2), (28, .bool (!(decide ((sAt a1 a2) = 10))))] (by kernel_rfl) ?_
      exact fun a ha => ⟨!(decide ((sAt a1 a2) = 10)), ha, (hS.re [0] [] rfl (sub_self)), H⟩
     rw [if_neg e3] at H
     refine EL.keep [0, 5, 6, 7, 8, 23] [(0, .string a1), (5, sv a5 a3 a0), (6, ia a4), (7, ia a6), (8, ia a2), (23, .bool (decide (a2 < (a1.size : Int))))] (by kernel_rfl) ?_
     refine EL.as' [(0, .string a1), (5, sv a5 a3 a0), (6, ia a4), (7, ia a6), (8, ia a2), (23, .bool (false))] (by simp only [sv, dec_f e3, Bool.not_true, Bool.not_false]) ?_
     refine EL.quick 5 [0, 5, 6, 7, 8, 28] [(0, .string a1), (5, sv a5 a3 a0), (6, ia a4), (7, ia a6), (8, ia a2), (28, .bool (false))] (by kernel_rfl) ?_
     refine EL.done (by kernel_rfl) ?_
     refine EQ.to ?_
     refine EQ.keep [0, 5, 6, 7, 8, 28] [(0, .string a1), (5, sv a5 a3 a0), (6, ia a4), (7, ia a6), (8, ia a2), (28, .bool (false))] (by kernel_rfl) ?_
     exact fun a ha => ⟨false, ha, (hS.re [0] [] rfl (sub_self)), H⟩
    obtain ⟨d8, ha, hS, H⟩ := hI
    rw [i6] at H
    (try dsimp only at H)
    refine EW.at ?_ a ha
    clear ha a
    refine EW.cdP' (d8) (by kernel_rfl) (by kernel_rfl) (fun f4 => ?_) (fun f4 => ?_)
    ·rw [if_pos f4] at H
     refine EW.exit (id := 1) (by kernel_rfl) ?_
     refine EQ.exitCode ?_
     refine EQ.exitHere ?_
     refine EQ.to ?_
     refine EQ.keep [0, 5, 6, 7, 8] [(0, .string a1), (5, sv a5 a3 a0), (6, ia a4), (7, ia a6), (8, ia a2)] (by kernel_rfl) ?_
     exact fun a ha => ⟨a0, a4, a6, a5, a3, ha, (hS.re [0] [] rfl (sub_self)), H⟩
    rw [if_neg f4] at H
    refine EW.skip (by kernel_rfl) ?_
    refine EQ.code ?_
    refine EW.sq (by kernel_rfl) ?_
    refine EW.rg (by kernel_rfl) ?_
    refine EL.quick 3 [0, 5, 6, 8, 29, 30, 31] [(0, .string a1), (5, sv a5 a3 a0), (6, ia a4), (8, ia a2), (29, .string a1), (30, ia a6), (31, ia a2)] (by kernel_rfl) ?_
    obtain ⟨j1, H⟩ := ite_in H
    obtain ⟨j2, H⟩ := ite_in H
    refine EL.of (EO.Y (YO.strSlice a1 (some (ia a6)) (some (ia a2)) a6.toNat a2.toNat 9 32 (by kernel_rfl) (by kernel_rfl) (by kernel_rfl) (by kernel_rfl) ((Int.toNat_of_nonneg (by omega)).symm) ((Int.toNat_of_nonneg (by omega)).symm) (by omega) (by omega)) ?_)
    refine EL.quick 1 [0, 5, 6, 8, 9] [(0, .string a1), (5, sv a5 a3 a0), (6, ia a4), (8, ia a2), (9, .string (a1.extract a6.toNat a2.toNat))] (by kernel_rfl) ?_
    refine EL.done (by kernel_rfl) ?_
    refine EQ.code ?_
    refine EW.sq (by kernel_rfl) ?_
    refine EW.rg (by kernel_rfl) ?_
    refine EL.quick 3 [0, 5, 6, 8, 9, 10] [(0, .string a1), (5, sv a5 a3 a0), (6, ia a4), (8, ia a2), (9, .string (a1.extract a6.toNat a2.toNat)), (10, ia (a0.length : Int))] (by kernel_rfl) ?_
    refine EL.done (by kernel_rfl) ?_
    refine EQ.code ?_
    refine EW.sq (by kernel_rfl) ?_
    refine EW.rg (by kernel_rfl) ?_
    refine EL.quick 1 [0, 5, 6, 8, 9, 10, 36] [(0, .string a1), (5, sv a5 a3 a0), (6, ia a4), (8, ia a2), (9, .string (a1.extract a6.toNat a2.toNat)), (10, ia (a0.length : Int)), (36, .string (a1.extract a6.toNat a2.toNat))] (by kernel_rfl) ?_
    obtain ⟨b0, a9, b1, i3, H⟩ := b3_out H
    have hq := confidantref5_Parse.calls i3 hS
    refine EL.of (EO.callD 46 [.string (a1.extract a6.toNat a2.toNat)] _ 37 (by kernel_rfl) (by kernel_rfl) (by kernel_rfl) hq ?_)
    rintro v w ⟨rfl, hS⟩
    refine EL.quick 3 [0, 5, 6, 8, 9, 10, 38, 39] [(0, .string a1), (5, sv a5 a3 a0), (6, ia a4), (8, ia a2), (9, .string (a1.extract a6.toNat a2.toNat)), (10, ia (a0.length : Int)), (38, ag [ia b0, ib a9]), (39, .bool (b1))] (by kernel_rfl) ?_
    refine EL.of (EO.alloc hS 59 (ag [ia 0, ib 0]) [ia 0, ib 0] 11 (by kernel_rfl) (by kernel_rfl) (by kernel_rfl) (by kernel_rfl) (by first | rfl | kernel_rfl) ?_)
    intro a8 w hS
    refine EL.of (EO.storeBox (os' := Ass.box 59 a8 [ia b0, ib a9] :: Ass.deep 56 59 kS59 a5 a3 a0 :: os) hS 0 rfl 59 0 (ag [ia b0, ib a9]) [ia b0, ib a9] (by kernel_rfl) (by kernel_rfl) (by kernel_rfl) (by kernel_rfl) (by kernel_rfl) (by kernel_rfl) rfl rfl ?_)
    intro w hS
    refine EL.quick 1 [0, 5, 6, 8, 9, 10, 11, 12] [(0, .string a1), (5, sv a5 a3 a0), (6, ia a4), (8, ia a2), (9, .string (a1.extract a6.toNat a2.toNat)), (10, ia (a0.length : Int)), (11, pt a8 0), (12, .bool (b1))] (by kernel_rfl) ?_
    refine EL.done (by kernel_rfl) ?_
    refine EQ.code ?_
    obtain ⟨e4, i7, H⟩ := lt_out H
    refine EW.ct (fun a w => ∃ c0 : List (List S59), ∃ c8 : Option Addr, ∃ d2 : Nat, Sat 91 [(0, .string a1), (5, sv c8 d2 c0), (6, ia a4), (8, ia a2)] a ∧ St B w (Ass.box 59 a8 [ia b0, ib a9] :: Ass.deep 56 59 kS59 c8 d2 c0 :: os) (rs) ∧ e4 c0 = some (b6, b7, b8)) (by kernel_rfl) ?_ (fun a w hI => ?_)
    ·refine EW.bl 2 (by kernel_rfl) ?_
     refine EW.sq (by kernel_rfl) ?_
     refine EW.rg (by kernel_rfl) ?_
     refine EL.quick 3 [0, 5, 6, 8, 9, 10, 11, 12, 52] [(0, .string a1), (5, sv a5 a3 a0), (6, ia a4), (8, ia a2), (9, .string (a1.extract a6.toNat a2.toNat)), (10, ia (a0.length : Int)), (11, pt a8 0), (12, .bool (b1)), (52, .bool (((a1.extract a6.toNat a2.toNat).toList == (⟨#[]⟩ : ByteArray).toList)))] (by kernel_rfl) ?_
     refine EL.done (by kernel_rfl) ?_
     refine EQ.code ?_
     refine EW.cdP' (((a1.extract a6.toNat a2.toNat).toList == (⟨#[]⟩ : ByteArray).toList)) (by kernel_rfl) (by kernel_rfl) (fun f5 => ?_) (fun f5 => ?_)
     ·rw [if_pos f5] at H
      refine EW.skip (by kernel_rfl) ?_
      refine EQ.pop ?_
      refine EQ.to ?_
      refine EQ.keep [0, 5, 6, 8] [(0, .string a1), (5, sv a5 a3 a0), (6, ia a4), (8, ia a2)] (by kernel_rfl) ?_
      exact fun a ha => ⟨a0, a5, a3, ha, (hS.re [1, 1] [] rfl (sub_self)), H⟩
     rw [if_neg f5] at H
     obtain ⟨f1, i8, H⟩ := lt_out H
     refine EW.ct (fun a w => ∃ d9 : Bool, Sat 91 [(0, .string a1), (5, sv a5 a3 a0), (6, ia a4), (8, ia a2), (9, .string (a1.extract a6.toNat a2.toNat)), (10, ia (a0.length : Int)), (11, pt a8 0), (12, .bool (b1)), (55, .bool (d9))] a ∧ St B w (Ass.box 59 a8 [ia b0, ib a9] :: Ass.deep 56 59 kS59 a5 a3 a0 :: os) (rs) ∧ f1 d9 = some (b6, b7, b8)) (by kernel_rfl) ?_ (fun a w hI => ?_)
     ·refine EW.rg (by kernel_rfl) ?_
      refine EL.quick 3 [0, 5, 6, 8, 9, 10, 11, 12, 58] [(0, .string a1), (5, sv a5 a3 a0), (6, ia a4), (8, ia a2), (9, .string (a1.extract a6.toNat a2.toNat)), (10, ia (a0.length : Int)), (11, pt a8 0), (12, .bool (b1)), (58, .bool (((a1.extract a6.toNat a2.toNat).toList == (⟨#[102, 117, 110, 99]⟩ : ByteArray).toList)))] (by kernel_rfl) ?_
      by_cases e5 : ((a1.extract a6.toNat a2.toNat).toList == (⟨#[102, 117, 110, 99]⟩ : ByteArray).toList) = true
      ·rw [if_pos e5] at H
       refine EL.keep [0, 5, 6, 8, 9, 10, 11, 12, 58] [(0, .string a1), (5, sv a5 a3 a0), (6, ia a4), (8, ia a2), (9, .string (a1.extract a6.toNat a2.toNat)), (10, ia (a0.length : Int)), (11, pt a8 0), (12, .bool (b1)), (58, .bool (((a1.extract a6.toNat a2.toNat).toList == (⟨#[102, 117, 110, 99]⟩ : ByteArray).toList)))] (by kernel_rfl) ?_
       refine EL.as' [(0, .string a1), (5, sv a5 a3 a0), (6, ia a4), (8, ia a2), (9, .string (a1.extract a6.toNat a2.toNat)), (10, ia (a0.length : Int)), (11, pt a8 0), (12, .bool (b1)), (58, .bool (true))] (by simp only [sv, e5, Bool.not_true, Bool.not_false]) ?_
       refine EL.quick 4 [0, 5, 6, 8, 9, 10, 11, 12, 55, 59, 60] [(0, .string a1), (5, sv a5 a3 a0), (6, ia a4), (8, ia a2), (9, .string (a1.extract a6.toNat a2.toNat)), (10, ia (a0.length : Int)), (11, pt a8 0), (12, .bool (b1)), (55, .bool (decide ((a0.length : Int) = 64))), (59, ia (a0.length : Int)), (60, .bool (decide ((a0.length : Int) = 64)))] (by kernel_rfl) ?_
       refine EL.done (by kernel_rfl) ?_
       refine EQ.to ?_
       refine EQ.keep [0, 5, 6, 8, 9, 10, 11, 12, 55] [(0, .string a1), (5, sv a5 a3 a0), (6, ia a4), (8, ia a2), (9, .string (a1.extract a6.toNat a2.toNat)), (10, ia (a0.length : Int)), (11, pt a8 0), (12, .bool (b1)), (55, .bool (decide ((a0.length : Int) = 64)))] (by kernel_rfl) ?_
       exact fun a ha => ⟨decide ((a0.length : Int) = 64), ha, (hS.re [1, 1] [] rfl (sub_self)), H⟩
      rw [if_neg e5] at H
      refine EL.keep [0, 5, 6, 8, 9, 10, 11, 12, 58] [(0, .string a1), (5, sv a5 a3 a0), (6, ia a4), (8, ia a2), (9, .string (a1.extract a6.toNat a2.toNat)), (10, ia (a0.length : Int)), (11, pt a8 0), (12, .bool (b1)), (58, .bool (((a1.extract a6.toNat a2.toNat).toList == (⟨#[102, 117, 110, 99]⟩ : ByteArray).toList)))] (by kernel_rfl) ?_
      refine EL.as' [(0, .string a1), (5, sv a5 a3 a0), (6, ia a4), (8, ia a2), (9, .string (a1.extract a6.toNat a2.toNat)), (10, ia (a0.length : Int)), (11, pt a8 0), (12, .bool (b1)), (58, .bool (false))] (by simp only [sv, (Bool.eq_false_iff.2 e5), Bool.not_true, Bool.not_false]) ?_
      refine EL.quick 4 [0, 5, 6, 8, 9, 10, 11, 12, 55] [(0, .string a1), (5, sv a5 a3 a0), (6, ia a4), (8, ia a2), (9, .string (a1.extract a6.toNat a2.toNat)), (10, ia (a0.length : Int)), (11, pt a8 0), (12, .bool (b1)), (55, .bool (false))] (by kernel_rfl) ?_
      refine EL.done (by kernel_rfl) ?_
      refine EQ.to ?_
      refine EQ.keep [0, 5, 6, 8, 9, 10, 11, 12, 55] [(0, .string a1), (5, sv a5 a3 a0), (6, ia a4), (8, ia a2), (9, .string (a1.extract a6.toNat a2.toNat)), (10, ia (a0.length : Int)), (11, pt a8 0), (12, .bool (b1)), (55, .bool (false))] (by kernel_rfl) ?_
      exact fun a ha => ⟨false, ha, (hS.re [1, 1] [] rfl (sub_self)), H⟩
     obtain ⟨d9, ha, hS, H⟩ := hI
     rw [i8] at H
     (try dsimp only at H)
     refine EW.at ?_ a ha
     clear ha a
     refine EW.cdP' (d9) (by kernel_rfl) (by kernel_rfl) (fun f6 => ?_) (fun f6 => ?_)
     ·rw [if_pos f6] at H
      refine EW.sq (by kernel_rfl) ?_
      refine EW.rg (by kernel_rfl) ?_
      refine EL.quick 4 [2, 3, 4] [(2, sv none 0 ([] : List (List S59))), (3, ia a4), (4, ia 22)] (by kernel_rfl) ?_
      refine EL.done (by kernel_rfl) ?_
      refine EQ.code ?_
      refine EW.ret (by kernel_rfl) ?_
      refine EQ.ret ?_
      refine EQ.ret ?_
      refine EQ.ret ?_
      refine EQ.ret ?_
      refine EQ.ret ?_
      refine EQ.ret ?_
      refine EQ.ret ?_
      have hS := St.nilDeep hS 56 59 kS59
      simp only [sv, Option.some.injEq, Prod.mk.injEq] at H
      obtain ⟨rfl, rfl, rfl⟩ := H
      exact EQ.leave (.tuple #[sv none 0 ([] : List (List S59)), ia a4, ia 22]) (by kernel_rfl) ⟨_, rfl, none, 0, rfl, (hS.re [0] [1, 1] rfl (sub_self))⟩
     rw [if_neg f6] at H
     refine EW.sq (by kernel_rfl) ?_
     refine EW.rg (by kernel_rfl) ?_
     refine EL.quick 3 [0, 5, 6, 8, 10, 11, 12, 63] [(0, .string a1), (5, sv a5 a3 a0), (6, ia a4), (8, ia a2), (10, ia (a0.length : Int)), (11, pt a8 0), (12, .bool (b1)), (63, .bool (((a1.extract a6.toNat a2.toNat).toList == (⟨#[102, 117, 110, 99]⟩ : ByteArray).toList)))] (by kernel_rfl) ?_
     refine EL.done (by kernel_rfl) ?_
     refine EQ.code ?_
     refine EW.cdP' (((a1.extract a6.toNat a2.toNat).toList == (⟨#[102, 117, 110, 99]⟩ : ByteArray).toList)) (by kernel_rfl) (by kernel_rfl) (fun f7 => ?_) (fun f7 => ?_)
     ·rw [if_pos f7] at H
      refine EW.rg (by kernel_rfl) ?_
      refine EL.quick 1 [0, 6, 8, 66] [(0, .string a1), (6, ia a4), (8, ia a2), (66, sv a5 a3 a0)] (by kernel_rfl) ?_
      refine EL.of (EO.lit (xs := ([(none, ([] : List S59).length, 0)] : List Hdr)) hS Kd.hdr 56 26 1 #[(0, sv none 0 ([] : List S59))] [sv none 0 ([] : List S59)] 67 (by kernel_rfl) (by kernel_rfl) (by kernel_rfl) (fun _ => (by kernel_rfl)) rfl (by kernel_rfl) (fun w G hr => ⟨[sv none 0 ([] : List S59)], [], rfl, rfl, rfl⟩) ?_)
      intro g8 w hS
      have hS := St.nilO hS 59 kS59
      have hS := St.as (os' := Ass.deep 56 59 kS59 (some ⟨g8, 0, none⟩) 1 ([([] : List S59)] : List (List S59)) :: Ass.box 59 a8 [ia b0, ib a9] :: Ass.deep 56 59 kS59 a5 a3 a0 :: os) (St.fold (B := B) (os := _) (rs := _) (et := 56) (et' := 59) (K := kS59) (hs := [(none, ([] : List S59).length, 0)]) (xs := ([([] : List S59)] : List (List S59))) ⟨rfl, trivial⟩ (St.re hS [0, 1] [] rfl sub_self)) rfl
      obtain ⟨i2, H⟩ := ite_in H
      obtain ⟨c5, j0, H⟩ := lt_out H
      refine EL.of (EO.appendDeep hS 26 26 24 2 0 kS59 a5 a3 a0 rfl (some ⟨g8, 0, none⟩) 1 ([([] : List S59)] : List (List S59)) rfl c5 j0 (fun e1 e2 => Ass.deep 56 59 kS59 e1 e2 c5 :: Ass.box 59 a8 [ia b0, ib a9] :: os) 68 (by kernel_rfl) (by kernel_rfl) (by kernel_rfl) (by kernel_rfl) i2 (fun _ _ => rfl) ?_)
      intro e1 e2 w hS
      refine EL.quick 1 [0, 5, 6, 8] [(0, .string a1), (5, sv e1 e2 c5), (6, ia a4), (8, ia a2)] (by kernel_rfl) ?_
      refine EL.done (by kernel_rfl) ?_
      refine EQ.pop ?_
      refine EQ.to ?_
      refine EQ.keep [0, 5, 6, 8] [(0, .string a1), (5, sv e1 e2 c5), (6, ia a4), (8, ia a2)] (by kernel_rfl) ?_
      exact fun a ha => ⟨c5, e1, e2, ha, (hS.re [0, 1] [] rfl (sub_self)), H⟩
     rw [if_neg f7] at H
     obtain ⟨f2, i9, H⟩ := lt_out H
     refine EW.ct (fun a w => ∃ e0 : Bool, Sat 91 [(0, .string a1), (5, sv a5 a3 a0), (6, ia a4), (8, ia a2), (10, ia (a0.length : Int)), (11, pt a8 0), (69, .bool (e0))] a ∧ St B w (Ass.box 59 a8 [ia b0, ib a9] :: Ass.deep 56 59 kS59 a5 a3 a0 :: os) (rs) ∧ f2 e0 = some (b6, b7, b8)) (by kernel_rfl) ?_ (fun a w hI => ?_)
     ·refine EW.rg (by kernel_rfl) ?_
      refine EL.quick 3 [0, 5, 6, 8, 10, 11, 72] [(0, .string a1), (5, sv a5 a3 a0), (6, ia a4), (8, ia a2), (10, ia (a0.length : Int)), (11, pt a8 0), (72, .bool (!(b1)))] (by kernel_rfl) ?_
      by_cases e6 : b1 = true
      ·rw [if_pos e6] at H
       refine EL.keep [0, 5, 6, 8, 10, 11, 72] [(0, .string a1), (5, sv a5 a3 a0), (6, ia a4), (8, ia a2), (10, ia (a0.length : Int)), (11, pt a8 0), (72, .bool (!(b1)))] (by kernel_rfl) ?_
       refine EL.as' [(0, .string a1), (5, sv a5 a3 a0), (6, ia a4), (8, ia a2), (10, ia (a0.length : Int)), (11, pt a8 0), (72, .bool (false))] (by simp only [sv, e6, Bool.not_true, Bool.not_false]) ?_
       refine EL.quick 4 [0, 5, 6, 8, 10, 11, 69, 73, 74] [(0, .string a1), (5, sv a5 a3 a0), (6, ia a4), (8, ia a2), (10, ia (a0.length : Int)), (11, pt a8 0), (69, .bool (decide ((a0.length : Int) = 0))), (73, ia (a0.length : Int)), (74, .bool (decide ((a0.length : Int) = 0)))] (by kernel_rfl) ?_
       refine EL.done (by kernel_rfl) ?_
       refine EQ.to ?_
       refine EQ.keep [0, 5, 6, 8, 10, 11, 69] [(0, .string a1), (5, sv a5 a3 a0), (6, ia a4), (8, ia a2), (10, ia (a0.length : Int)), (11, pt a8 0), (69, .bool (decide ((a0.length : Int) = 0)))] (by kernel_rfl) ?_
       exact fun a ha => ⟨decide ((a0.length : Int) = 0), ha, (hS.re [1, 1] [] rfl (sub_self)), H⟩
      rw [if_neg e6] at H
      refine EL.keep [0, 5, 6, 8, 10, 11, 72] [(0, .string a1), (5, sv a5 a3 a0), (6, ia a4), (8, ia a2), (10, ia (a0.length : Int)), (11, pt a8 0), (72, .bool (!(b1)))] (by kernel_rfl) ?_
      refine EL.as' [(0, .string a1), (5, sv a5 a3 a0), (6, ia a4), (8, ia a2), (10, ia (a0.length : Int)), (11, pt a8 0), (72, .bool (true))] (by simp only [sv, (Bool.eq_false_iff.2 e6), Bool.not_true, Bool.not_false]) ?_
      refine EL.quick 4 [0, 5, 6, 8, 10, 11, 69] [(0, .string a1), (5, sv a5 a3 a0), (6, ia a4), (8, ia a2), (10, ia (a0.length : Int)), (11, pt a8 0), (69, .bool (true))] (by kernel_rfl) ?_
      refine EL.done (by kernel_rfl) ?_
      refine EQ.to ?_
      refine EQ.keep [0, 5, 6, 8, 10, 11, 69] [(0, .string a1), (5, sv a5 a3 a0), (6, ia a4), (8, ia a2), (10, ia (a0.length : Int)), (11, pt a8 0), (69, .bool (true))] (by kernel_rfl) ?_
      exact fun a ha => ⟨true, ha, (hS.re [1, 1] [] rfl (sub_self)), H⟩
     obtain ⟨e0, ha, hS, H⟩ := hI
     rw [i9] at H
     (try dsimp only at H)
     refine EW.at ?_ a ha
     clear ha a
     refine EW.cdP' (e0) (by kernel_rfl) (by kernel_rfl) (fun f8 => ?_) (fun f8 => ?_)
     ·rw [if_pos f8] at H
      refine EW.sq (by kernel_rfl) ?_
      refine EW.rg (by kernel_rfl) ?_
      refine EL.quick 4 [2, 3, 4] [(2, sv none 0 ([] : List (List S59))), (3, ia a4), (4, ia 24)] (by kernel_rfl) ?_
      refine EL.done (by kernel_rfl) ?_
      refine EQ.code ?_
      refine EW.ret (by kernel_rfl) ?_
      refine EQ.ret ?_
      refine EQ.ret ?_
      refine EQ.ret ?_
      refine EQ.ret ?_
      refine EQ.ret ?_
      refine EQ.ret ?_
      refine EQ.ret ?_
      have hS := St.nilDeep hS 56 59 kS59
      simp only [sv, Option.some.injEq, Prod.mk.injEq] at H
      obtain ⟨rfl, rfl, rfl⟩ := H
      exact EQ.leave (.tuple #[sv none 0 ([] : List (List S59)), ia a4, ia 24]) (by kernel_rfl) ⟨_, rfl, none, 0, rfl, (hS.re [0] [1, 1] rfl (sub_self))⟩
     rw [if_neg f8] at H
     refine EW.sq (by kernel_rfl) ?_
     refine EW.rg (by kernel_rfl) ?_
     refine EL.quick 3 [0, 5, 6, 8, 10, 11, 78, 80] [(0, .string a1), (5, sv a5 a3 a0), (6, ia a4), (8, ia a2), (10, ia (a0.length : Int)), (11, pt a8 0), (78, sv a5 a3 a0), (80, ia (IntKind.i64.wrap ((a0.length : Int) - 1)))] (by kernel_rfl) ?_
     obtain ⟨b5, H⟩ := ite_in H
     obtain ⟨d6, H⟩ := ite_in H
     obtain ⟨a7, rfl⟩ := St.deep_some hS 1 rfl b5 d6
     refine EL.of (EO.Y (YO.idx 26 1 a7 a0.length a3 .i64 (IntKind.i64.wrap ((a0.length : Int) - 1)) 81 (by kernel_rfl) (by kernel_rfl) (by kernel_rfl) (by kernel_rfl) b5 d6) ?_)
     refine EL.of (EO.openEl hS 1 a7 rfl (IntKind.i64.wrap ((a0.length : Int) - 1)) b5 d6 (fun c9 d3 => Ass.box 59 a8 [ia b0, ib a9] :: Ass.holed 56 59 kS59 (some a7) a3 a0 (IntKind.i64.wrap ((a0.length : Int) - 1)).toNat (c9, (a0.getD (IntKind.i64.wrap ((a0.length : Int) - 1)).toNat []).length, d3) :: os) 56 82 (by kernel_rfl) (by kernel_rfl) (by kernel_rfl) (by kernel_rfl) (fun _ _ => rfl) ?_)
     intro c9 d3 hS
     refine EL.quick 3 [0, 5, 6, 8, 10, 11, 77] [(0, .string a1), (5, sv (some a7) a3 a0), (6, ia a4), (8, ia a2), (10, ia (a0.length : Int)), (11, pt a8 0), (77, .bool (decide (((a0.getD (IntKind.i64.wrap ((a0.length : Int) - 1)).toNat []).length : Int) = 512)))] (by kernel_rfl) ?_
     refine EL.done (by kernel_rfl) ?_
     refine EQ.code ?_
     refine EW.cdP (((a0.getD (IntKind.i64.wrap ((a0.length : Int) - 1)).toNat []).length : Int) = 512) (by kernel_rfl) (by kernel_rfl) (fun f9 => ?_) (fun f9 => ?_)
     ·rw [if_pos f9] at H
      refine EW.sq (by kernel_rfl) ?_
      refine EW.rg (by kernel_rfl) ?_
      refine EL.quick 4 [2, 3, 4] [(2, sv none 0 ([] : List (List S59))), (3, ia a4), (4, ia 22)] (by kernel_rfl) ?_
      refine EL.done (by kernel_rfl) ?_
      refine EQ.code ?_
      refine EW.ret (by kernel_rfl) ?_
      refine EQ.ret ?_
      refine EQ.ret ?_
      refine EQ.ret ?_
      refine EQ.ret ?_
      refine EQ.ret ?_
      refine EQ.ret ?_
      refine EQ.ret ?_
      have hS := St.as (os' := Ass.box 59 a8 [ia b0, ib a9] :: Ass.deep 56 59 kS59 (some a7) a3 a0 :: os) (St.close hS 0 1 rfl rfl rfl a0 (set_getD _ _)) rfl
      have hS := St.nilDeep hS 56 59 kS59
      simp only [sv, Option.some.injEq, Prod.mk.injEq] at H
      obtain ⟨rfl, rfl, rfl⟩ := H
      exact EQ.leave (.tuple #[sv none 0 ([] : List (List S59)), ia a4, ia 22]) (by kernel_rfl) ⟨_, rfl, none, 0, rfl, (hS.re [0] [1, 1] rfl (sub_self))⟩
     rw [if_neg f9] at H
     obtain ⟨b4, e7, H⟩ := lt_out H
     obtain ⟨g9, H⟩ := ite_in H
     obtain ⟨d7, i0, H⟩ := lt_out H
     obtain ⟨b2, e8, H⟩ := lt_out H
     refine EW.mt (fun a w => ∃ g1 : Option Addr, ∃ g5 : Nat, Sat 91 [(0, .string a1), (5, sv (some a7) a3 b2), (6, ia a4), (8, ia a2)] a ∧ St B w (Ass.own 59 kS59 g1 g5 b4 :: Ass.box 59 a8 [ia b0, ib a9] :: Ass.deep 56 59 kS59 (some a7) a3 b2 :: os) (rs)) (by kernel_rfl) ?_ (fun a w hI => ?_)
     ·have hS := hS.drew
      refine EW.dr (B := B) [Ass.box 59 a8 [ia b0, ib a9]] [] (by kernel_rfl) (by kernel_rfl) ?_
      have hN : Region.noSelect Cd21.r.r.r.l.r.l.l.r.l.l.r.r.r.r.l.l.r.r.r.r.r.r.r.r.r.r.ops = true := (by kernel_rfl)
      have hF : freeAll Cd21.r.r.r.l.r.l.l.r.l.l.r.r.r.r.l.l.r.r.r.r.r.r.r.r.r.r.ops = true := (by kernel_rfl)
      have hC : Core B [Ass.box 59 a8 [ia b0, ib a9]] [] _ := ⟨_, _, hS.re [1] [] rfl sub_self⟩
      refine ED.quick hN hF hC [0, 1, 2, 3, 4, 5] [0, 5, 6, 8, 11, 40, 42, 43, 45] 7 [(0, .string a1), (5, sv (some a7) a3 a0), (6, ia a4), (8, ia a2), (11, pt a8 0), (40, sv (some a7) a3 a0), (42, ia (IntKind.i64.wrap ((a0.length : Int) - 1))), (43, sv (some a7) a3 a0), (45, ia (IntKind.i64.wrap ((a0.length : Int) - 1)))] (bm 13 63) (by kernel_rfl) (by kernel_rfl) ?_
      refine ED.Y hN hF hC 6 6 (bm 13 127) (by kernel_rfl) (by kernel_rfl) rfl (fun _ _ _ hS => YO.idx 26 1 a7 a0.length a3 .i64 (IntKind.i64.wrap ((a0.length : Int) - 1)) 46 (by kernel_rfl) (by kernel_rfl) (by kernel_rfl) (by kernel_rfl) b5 d6) ?_
      refine ED.Y hN hF hC 8 5 (bm 13 383) (by kernel_rfl) (by kernel_rfl) rfl (fun _ _ _ hS => YO.loadBox hS 0 rfl 59 0 2 (ag [ia b0, ib a9]) 48 (by kernel_rfl) (by kernel_rfl) (by kernel_rfl) (by kernel_rfl)) ?_
      refine ED.two 7 9 4 (by kernel_rfl) (by kernel_rfl) ?_ ?_
      ·refine EO.Y (YO.loadHole hS 2 a7 (j := (IntKind.i64.wrap ((a0.length : Int) - 1))) rfl b5 56 47 (by kernel_rfl) (by kernel_rfl) (by kernel_rfl) (by kernel_rfl)) ?_
       have hC := hC.again ⟨_, _, hS.re [1] [] rfl sub_self⟩
       refine ⟨hC, ?_⟩
       refine ED.at' (bm 13 511) (by kernel_rfl) ?_
       refine ED.one 9 3 (bm 13 1023) (by kernel_rfl) (by kernel_rfl) (by kernel_rfl) (EO.lit hS kS59 59 56 1 #[(0, ag [ia b0, ib a9])] [ia b0, ib a9] b4 49 (by kernel_rfl) (by kernel_rfl) (by kernel_rfl) (fun _ => (by kernel_rfl)) (by rw [e7]; rfl) (by kernel_rfl) (fun w G hr => (by rw [e7]; exact ⟨[ia b0, ib a9], [], rfl, ⟨[ia b0], [ib a9], rfl, rfl, ⟨[ib a9], [], rfl, rfl, rfl⟩⟩, rfl⟩)) ?_)
       intro d4 w hS
       have hC := hC.again ⟨_, _, hS.re [2] [] rfl sub_self⟩
       refine ⟨hC, ?_⟩
       refine ED.one 10 2 (bm 13 2047) (by kernel_rfl) (by kernel_rfl) (by kernel_rfl) (EO.append hS 56 56 59 16 1 kS59 c9 d3 (a0.getD (IntKind.i64.wrap ((a0.length : Int) - 1)).toNat []) rfl (some ⟨d4, 0, none⟩) 1 b4 (Rd.own 0 59 rfl) d7 i0 (fun g2 g6 => Ass.own 59 kS59 (some ⟨d4, 0, none⟩) 1 b4 :: Ass.own 59 kS59 g2 g6 d7 :: Ass.box 59 a8 [ia b0, ib a9] :: Ass.holed 56 59 kS59 (some a7) a3 a0 (IntKind.i64.wrap ((a0.length : Int) - 1)).toNat (c9, (a0.getD (IntKind.i64.wrap ((a0.length : Int) - 1)).toNat []).length, d3) :: os) 50 (by kernel_rfl) (by kernel_rfl) (by kernel_rfl) (by kernel_rfl) g9 (fun _ _ => rfl) ?_)
       intro g2 g6 w hS
       have hC := hC.again ⟨_, _, hS.re [2] [] rfl sub_self⟩
       refine ⟨hC, ?_⟩
       refine ED.Y hN hF hC 11 1 (bm 13 4095) (by kernel_rfl) (by kernel_rfl) rfl (fun _ _ _ hS => YO.idx 26 1 a7 a0.length a3 .i64 (IntKind.i64.wrap ((a0.length : Int) - 1)) 51 (by kernel_rfl) (by kernel_rfl) (by kernel_rfl) (by kernel_rfl) b5 d6) ?_
       refine ED.one 12 0 (bm 13 8191) (by kernel_rfl) (by kernel_rfl) (by kernel_rfl) (EO.closeEl hS 1 2 a7 (IntKind.i64.wrap ((a0.length : Int) - 1)) rfl rfl b5 b2 e8 (Ass.own 59 kS59 (some ⟨d4, 0, none⟩) 1 b4 :: Ass.box 59 a8 [ia b0, ib a9] :: Ass.deep 56 59 kS59 (some a7) a3 b2 :: os) 56 (by kernel_rfl) (by kernel_rfl) (by kernel_rfl) (by kernel_rfl) rfl ?_)
       intro w hS
       have hC := hC.again ⟨_, _, hS.re [1] [] rfl sub_self⟩
       refine ⟨hC, ?_⟩
       refine ED.keep [0, 5, 6, 8, 11, 40, 42, 43, 45, 46, 48, 49, 51] [(0, .string a1), (5, sv (some a7) a3 a0), (6, ia a4), (8, ia a2), (11, pt a8 0), (40, sv (some a7) a3 a0), (42, ia (IntKind.i64.wrap ((a0.length : Int) - 1))), (43, sv (some a7) a3 a0), (45, ia (IntKind.i64.wrap ((a0.length : Int) - 1))), (46, .pointer (some ((a7.add ((IntKind.i64.wrap ((a0.length : Int) - 1)).toNat * 1)).add 0))), (48, ag [ia b0, ib a9]), (49, sv (some ⟨d4, 0, none⟩) 1 b4), (51, .pointer (some ((a7.add ((IntKind.i64.wrap ((a0.length : Int) - 1)).toNat * 1)).add 0)))] (by kernel_rfl) ?_
       refine ED.as' [(0, .string a1), (5, sv (some a7) a3 b2), (6, ia a4), (8, ia a2), (11, pt a8 0), (40, sv (some a7) a3 b2), (42, ia (IntKind.i64.wrap ((a0.length : Int) - 1))), (43, sv (some a7) a3 b2), (45, ia (IntKind.i64.wrap ((a0.length : Int) - 1))), (46, .pointer (some ((a7.add ((IntKind.i64.wrap ((a0.length : Int) - 1)).toNat * 1)).add 0))), (48, ag [ia b0, ib a9]), (49, sv (some ⟨d4, 0, none⟩) 1 b4), (51, .pointer (some ((a7.add ((IntKind.i64.wrap ((a0.length : Int) - 1)).toNat * 1)).add 0)))] (by simp only [sv, e8, List.length_set]) ?_
       refine ED.done (by kernel_rfl) ?_
       refine EQ.to ?_
       refine EQ.keep [0, 5, 6, 8] [(0, .string a1), (5, sv (some a7) a3 b2), (6, ia a4), (8, ia a2)] (by kernel_rfl) ?_
       exact fun a ha => ⟨(some ⟨d4, 0, none⟩), 1, ha, (hS.re [2, 2, 2] [] rfl (sub_self))⟩
      ·refine EO.lit hS kS59 59 56 1 #[(0, ag [ia b0, ib a9])] [ia b0, ib a9] b4 49 (by kernel_rfl) (by kernel_rfl) (by kernel_rfl) (fun _ => (by kernel_rfl)) (by rw [e7]; rfl) (by kernel_rfl) (fun w G hr => (by rw [e7]; exact ⟨[ia b0, ib a9], [], rfl, ⟨[ia b0], [ib a9], rfl, rfl, ⟨[ib a9], [], rfl, rfl, rfl⟩⟩, rfl⟩)) ?_
       intro d5 w hS
       have hC := hC.again ⟨_, _, hS.re [2] [] rfl sub_self⟩
       refine ⟨hC, ?_⟩
       refine ED.at' (bm 13 895) (by kernel_rfl) ?_
       refine ED.one 7 3 (bm 13 1023) (by kernel_rfl) (by kernel_rfl) (by kernel_rfl) (EO.Y (YO.loadHole hS 3 a7 (j := (IntKind.i64.wrap ((a0.length : Int) - 1))) rfl b5 56 47 (by kernel_rfl) (by kernel_rfl) (by kernel_rfl) (by kernel_rfl)) ?_)
       have hC := hC.again ⟨_, _, hS.re [2] [] rfl sub_self⟩
       refine ⟨hC, ?_⟩
       refine ED.one 10 2 (bm 13 2047) (by kernel_rfl) (by kernel_rfl) (by kernel_rfl) (EO.append hS 56 56 59 16 1 kS59 c9 d3 (a0.getD (IntKind.i64.wrap ((a0.length : Int) - 1)).toNat []) rfl (some ⟨d5, 0, none⟩) 1 b4 (Rd.own 0 59 rfl) d7 i0 (fun g3 g7 => Ass.own 59 kS59 (some ⟨d5, 0, none⟩) 1 b4 :: Ass.own 59 kS59 g3 g7 d7 :: Ass.box 59 a8 [ia b0, ib a9] :: Ass.holed 56 59 kS59 (some a7) a3 a0 (IntKind.i64.wrap ((a0.length : Int) - 1)).toNat (c9, (a0.getD (IntKind.i64.wrap ((a0.length : Int) - 1)).toNat []).length, d3) :: os) 50 (by kernel_rfl) (by kernel_rfl) (by kernel_rfl) (by kernel_rfl) g9 (fun _ _ => rfl) ?_)
       intro g3 g7 w hS
       have hC := hC.again ⟨_, _, hS.re [2] [] rfl sub_self⟩
       refine ⟨hC, ?_⟩
       refine ED.Y hN hF hC 11 1 (bm 13 4095) (by kernel_rfl) (by kernel_rfl) rfl (fun _ _ _ hS => YO.idx 26 1 a7 a0.length a3 .i64 (IntKind.i64.wrap ((a0.length : Int) - 1)) 51 (by kernel_rfl) (by kernel_rfl) (by kernel_rfl) (by kernel_rfl) b5 d6) ?_
       refine ED.one 12 0 (bm 13 8191) (by kernel_rfl) (by kernel_rfl) (by kernel_rfl) (EO.closeEl hS 1 2 a7 (IntKind.i64.wrap ((a0.length : Int) - 1)) rfl rfl b5 b2 e8 (Ass.own 59 kS59 (some ⟨d5, 0, none⟩) 1 b4 :: Ass.box 59 a8 [ia b0, ib a9] :: Ass.deep 56 59 kS59 (some a7) a3 b2 :: os) 56 (by kernel_rfl) (by kernel_rfl) (by kernel_rfl) (by kernel_rfl) rfl ?_)
       intro w hS
       have hC := hC.again ⟨_, _, hS.re [1] [] rfl sub_self⟩
       refine ⟨hC, ?_⟩
       refine ED.keep [0, 5, 6, 8, 11, 40, 42, 43, 45, 46, 48, 49, 51] [(0, .string a1), (5, sv (some a7) a3 a0), (6, ia a4), (8, ia a2), (11, pt a8 0), (40, sv (some a7) a3 a0), (42, ia (IntKind.i64.wrap ((a0.length : Int) - 1))), (43, sv (some a7) a3 a0), (45, ia (IntKind.i64.wrap ((a0.length : Int) - 1))), (46, .pointer (some ((a7.add ((IntKind.i64.wrap ((a0.length : Int) - 1)).toNat * 1)).add 0))), (48, ag [ia b0, ib a9]), (49, sv (some ⟨d5, 0, none⟩) 1 b4), (51, .pointer (some ((a7.add ((IntKind.i64.wrap ((a0.length : Int) - 1)).toNat * 1)).add 0)))] (by kernel_rfl) ?_
       refine ED.as' [(0, .string a1), (5, sv (some a7) a3 b2), (6, ia a4), (8, ia a2), (11, pt a8 0), (40, sv (some a7) a3 b2), (42, ia (IntKind.i64.wrap ((a0.length : Int) - 1))), (43, sv (some a7) a3 b2), (45, ia (IntKind.i64.wrap ((a0.length : Int) - 1))), (46, .pointer (some ((a7.add ((IntKind.i64.wrap ((a0.length : Int) - 1)).toNat * 1)).add 0))), (48, ag [ia b0, ib a9]), (49, sv (some ⟨d5, 0, none⟩) 1 b4), (51, .pointer (some ((a7.add ((IntKind.i64.wrap ((a0.length : Int) - 1)).toNat * 1)).add 0)))] (by simp only [sv, e8, List.length_set]) ?_
       refine ED.done (by kernel_rfl) ?_
       refine EQ.to ?_
       refine EQ.keep [0, 5, 6, 8] [(0, .string a1), (5, sv (some a7) a3 b2), (6, ia a4), (8, ia a2)] (by kernel_rfl) ?_
       exact fun a ha => ⟨(some ⟨d5, 0, none⟩), 1, ha, (hS.re [2, 2, 2] [] rfl (sub_self))⟩
     ·obtain ⟨g1, g5, ha, hS⟩ := hI
      refine EQ.at ?_ a ha
      clear ha a
      refine EQ.pop ?_
      refine EQ.to ?_
      refine EQ.keep [0, 5, 6, 8] [(0, .string a1), (5, sv (some a7) a3 b2), (6, ia a4), (8, ia a2)] (by kernel_rfl) ?_
      exact fun a ha => ⟨b2, (some a7), a3, ha, (hS.re [2, 2] [2] rfl (sub_self)), H⟩
    obtain ⟨c0, c8, d2, ha, hS, H⟩ := hI
    rw [i7] at H
    (try dsimp only at H)
    refine EW.at ?_ a ha
    clear ha a
    refine EW.rg (by kernel_rfl) ?_
    refine EL.quick 6 [0, 5, 6, 7, 8] [(0, .string a1), (5, sv c8 d2 c0), (6, ia (IntKind.i64.wrap (a4 + 1))), (7, ia (IntKind.i64.wrap (a2 + 1))), (8, ia a2)] (by kernel_rfl) ?_
    refine EL.done (by kernel_rfl) ?_
    refine EQ.pop ?_
    refine EQ.to ?_
    refine EQ.keep [0, 5, 6, 7, 8] [(0, .string a1), (5, sv c8 d2 c0), (6, ia (IntKind.i64.wrap (a4 + 1))), (7, ia (IntKind.i64.wrap (a2 + 1))), (8, ia a2)] (by kernel_rfl) ?_
    exact fun a ha => ⟨c0, IntKind.i64.wrap (a4 + 1), IntKind.i64.wrap (a2 + 1), c8, d2, ha, (hS.re [1] [1] rfl (sub_self)), H⟩
   obtain ⟨b9, c2, c3, c7, d1, ha, hS, H⟩ := hI
   rw [i5] at H
   (try dsimp only at H)
   refine EW.at ?_ a ha
   clear ha a
   refine EW.rg (by kernel_rfl) ?_
   refine EL.quick 3 [0, 5, 6, 7, 8] [(0, .string a1), (5, sv c7 d1 b9), (6, ia c2), (7, ia c3), (8, ia (IntKind.i64.wrap (a2 + 1)))] (by kernel_rfl) ?_
   refine EL.done (by kernel_rfl) ?_
   refine EQ.to ?_
   refine EQ.keep [0, 5, 6, 7, 8] [(0, .string a1), (5, sv c7 d1 b9), (6, ia c2), (7, ia c3), (8, ia (IntKind.i64.wrap (a2 + 1)))] (by kernel_rfl) ?_
   exact fun a ha => ⟨n, Nat.lt_succ_self n, b9, c2, c3, IntKind.i64.wrap (a2 + 1), c7, d1, ha, (hS.re [0] [] rfl (sub_self)), H⟩
  rw [if_neg f3] at H
  refine EW.exit (id := 0) (by kernel_rfl) ?_
  refine EQ.exitCode ?_
  refine EQ.exitTo ?_
  refine EQ.exitHere ?_
  refine EQ.to ?_
  refine EQ.keep [5] [(5, sv a5 a3 a0)] (by kernel_rfl) ?_
  exact fun a ha => ⟨a0, a5, a3, ha, (hS.re [0] [] rfl (sub_self)), H⟩
 obtain ⟨c1, c6, d0, ha, hS, H⟩ := hI
 rw [i4] at H
 (try dsimp only at H)
 refine EW.at ?_ a ha
 clear ha a
 refine EW.sq (by kernel_rfl) ?_
 refine EW.rg (by kernel_rfl) ?_
 refine EL.quick 4 [2, 3, 4] [(2, sv c6 d0 c1), (3, ia 0), (4, ia 0)] (by kernel_rfl) ?_
 refine EL.done (by kernel_rfl) ?_
 refine EQ.code ?_
 refine EW.ret (by kernel_rfl) ?_
 simp only [sv, Option.some.injEq, Prod.mk.injEq] at H
 obtain ⟨rfl, rfl, rfl⟩ := H
 exact EQ.leave (.tuple #[sv c6 d0 c1, ia 0, ia 0]) (by kernel_rfl) ⟨_, rfl, c6, d0, rfl, (hS.re [0] [] rfl (sub_self))⟩

end Go.Proofs.YtiilloijkbabbaaGreatDoor.G
