import Derived.Test.YtiilloijkbabbaaDoorProg
import Derived.Test.YtiilloijkbabbaaDoorFwShort
import Derived.Test.YtiilloijkbabbaaDoorFwOpen
import Derived.Test.YtiilloijkbabbaaDoorDoor
import Derived.Test.YtiilloijkbabbaaDoorFwStr
import Derived.Test.YtiilloijkbabbaaDoorG0
import Derived.Test.YtiilloijkbabbaaDoorG1
namespace Go.Proofs.YtiilloijkbabbaaDoor.G
open Go Go.Fw Go.RowKit Go.Proofs
set_option linter.unusedVariables false
set_option linter.unusedSimpArgs false

/-! ### confidant/confidantlaw7.ImageLimits: function 3 -/
def confidantlaw7_ImageLimits.l1 (K : Nat) (a0 : Int) (d0 : (List S27) → ByteArray → Option Bool) : Nat → (List S27) → ByteArray → Int → Option Bool
 | 0, _, _, _ => none
 | n + 1, c0, b5, a7 => if a7 < a0 then (if 0 ≤ a7 then (if a7 < (c0.length : Int) then (lt (c0.set a7.toNat (⟨25, 0⟩ : S27)) fun c7 => (if b5.size + (⟨#[114, 101, 116, 10]⟩ : ByteArray).size ≤ 9223372036854775807 then (confidantlaw7_ImageLimits.l1 K a0 d0 n c7 (b5 ++ (⟨#[114, 101, 116, 10]⟩ : ByteArray)) (IntKind.i64.wrap (a7 + 1))) else none)) else none) else none) else (d0 c0 b5)
def confidantlaw7_ImageLimits.l0 (K : Nat) (a2 : Int) (c9 : ByteArray → Option Bool) : Nat → ByteArray → Int → Option Bool
 | 0, _, _ => none
 | n + 1, b9, c1 => if c1 < (IntKind.i64.wrap (62 + (IntKind.i64.wrap (Int.tmod a2 4)))) then (if b9.size + (⟨#[102, 117, 110, 99, 10]⟩ : ByteArray).size ≤ 9223372036854775807 then (confidantlaw7_ImageLimits.l0 K a2 c9 n (b9 ++ (⟨#[102, 117, 110, 99, 10]⟩ : ByteArray)) (IntKind.i64.wrap (c1 + 1))) else none) else (c9 b9)
def confidantlaw7_ImageLimits.f (K : Nat) (a2 : Int) : Option Bool := b1 (confidantlaw7_known.f K) fun (d2 : Bool) => (if d2 = true then (lt (IntKind.i64.wrap (510 + (IntKind.i64.wrap (Int.tmod (IntKind.u8.wrap (Int.tdiv a2 4)) 4)))) fun a0 => (if 0 ≤ (IntKind.i64.wrap (62 + (IntKind.i64.wrap (Int.tmod a2 4)))) then (if (24 : Int) * (IntKind.i64.wrap (62 + (IntKind.i64.wrap (Int.tmod a2 4)))) ≤ 140737488355328 then (lt (List.replicate (IntKind.i64.wrap (62 + (IntKind.i64.wrap (Int.tmod a2 4)))).toNat [] : List (List S27)) fun a3 => (if 0 ≤ a0 then (if (16 : Int) * a0 ≤ 140737488355328 then (lt (List.replicate a0.toNat zS27 : List S27) fun a9 => (lt (fun (a6 : ByteArray) => (lt (fun (b4 : List S27) (c3 : ByteArray) => (b2 (image_Put.f K a3) fun (e7 : List Int) (c2 : Int) => (b2 (image_Put.f K ([b4] : List (List S27))) fun (g7 : List Int) (b8 : Int) => (b3 (image_Parse.f K a6) fun (g8 : List (List S27)) (a5 : Int) (b0 : Int) => (b3 (image_Parse.f K c3) fun (g9 : List (List S27)) (a1 : Int) (a8 : Int) => (if ((decide (c2 = 22)) == (decide ((IntKind.i64.wrap (62 + (IntKind.i64.wrap (Int.tmod a2 4)))) > 64))) = true then (if ((decide (b8 = 22)) == (decide (a0 > 512))) = true then (if ((decide (b0 = 22)) == (decide ((IntKind.i64.wrap (62 + (IntKind.i64.wrap (Int.tmod a2 4)))) > 64))) = true then (if ((decide (a8 = 22)) == (decide (a0 > 512))) = true then (if (IntKind.i64.wrap (62 + (IntKind.i64.wrap (Int.tmod a2 4)))) ≤ 64 then (if a0 ≤ 512 then (some true) else (some (decide (a1 = 513)))) else (if a5 = 64 then (if a0 ≤ 512 then (some true) else (some (decide (a1 = 513)))) else (some false))) else (some false)) else (some false)) else (some false)) else (some false))))))) fun d0 => (confidantlaw7_ImageLimits.l1 K a0 d0 K a9 (⟨#[102, 117, 110, 99, 10]⟩ : ByteArray) 0))) fun c9 => (confidantlaw7_ImageLimits.l0 K a2 c9 K (⟨#[]⟩ : ByteArray) 0))) else none) else none)) else none) else none)) else (some false))
set_option maxRecDepth 100000 in
theorem confidantlaw7_ImageLimits.calls {K : Nat} {a2 : Int} {d1 : Bool} {B w : World} {os : List Ass} {rs : List Ro} (H : confidantlaw7_ImageLimits.f K a2 = some d1) (hS : St B w (os) (rs)) (gB : Glob B) :
  Calls Tryd.prog 3 [ig a2].toArray w (fun en w' => ∃ v, en = .returned v ∧ v = .bool (d1) ∧ St B w' (os) (rs)) := by
 unfold confidantlaw7_ImageLimits.f at H
 refine calls_of_EW (args := [ig a2]) (c := Cd3) 119 Tryd.func3 (by kernel_rfl) (by kernel_rfl) (by kernel_rfl) ?_
 refine EW.sq (by kernel_rfl) ?_
 refine EW.rg (by kernel_rfl) ?_
 refine EL.quick 1 [0] [(0, ig a2)] (by kernel_rfl) ?_
 refine EL.done (by kernel_rfl) ?_
 refine EQ.code ?_
 refine EW.sq (by kernel_rfl) ?_
 refine EW.sq (by kernel_rfl) ?_
 refine EW.rg (by kernel_rfl) ?_
 obtain ⟨d2, f8, H⟩ := b1_out H
 have hq := confidantlaw7_known.calls f8 hS gB
 refine EL.of (EO.callD 5 [] _ 21 (by kernel_rfl) (by kernel_rfl) (by kernel_rfl) hq ?_)
 rintro v w ⟨rfl, hS⟩
 refine EL.quick 1 [0, 22] [(0, ig a2), (22, .bool (!(d2)))] (by kernel_rfl) ?_
 refine EL.done (by kernel_rfl) ?_
 refine EQ.code ?_
 refine EW.cdQ (b := !(d2)) (d2 = true) (false) (by kernel_rfl) (by kernel_rfl) ⟨fun h => (by rw [h] <;> rfl), fun h => (by rw [Bool.eq_false_iff.2 h] <;> rfl)⟩ (fun e2 => ?_) (fun e2 => ?_)
 ·rw [if_pos e2] at H
  refine EW.skip (by kernel_rfl) ?_
  refine EQ.code ?_
  refine EW.sq (by kernel_rfl) ?_
  refine EW.rg (by kernel_rfl) ?_
  refine EL.quick 5 [0, 3] [(0, ig a2), (3, ia (IntKind.i64.wrap (62 + (IntKind.i64.wrap (Int.tmod a2 4)))))] (by kernel_rfl) ?_
  refine EL.done (by kernel_rfl) ?_
  refine EQ.code ?_
  refine EW.sq (by kernel_rfl) ?_
  refine EW.rg (by kernel_rfl) ?_
  refine EL.quick 6 [3, 4] [(3, ia (IntKind.i64.wrap (62 + (IntKind.i64.wrap (Int.tmod a2 4))))), (4, ia (IntKind.i64.wrap (510 + (IntKind.i64.wrap (Int.tmod (IntKind.u8.wrap (Int.tdiv a2 4)) 4)))))] (by kernel_rfl) ?_
  obtain ⟨a0, g6, H⟩ := lt_out H
  refine EL.keep [3, 4] [(3, ia (IntKind.i64.wrap (62 + (IntKind.i64.wrap (Int.tmod a2 4))))), (4, ia (IntKind.i64.wrap (510 + (IntKind.i64.wrap (Int.tmod (IntKind.u8.wrap (Int.tdiv a2 4)) 4)))))] (by kernel_rfl) ?_
  refine EL.as' [(3, ia (IntKind.i64.wrap (62 + (IntKind.i64.wrap (Int.tmod a2 4))))), (4, ia a0)] (by subst g6; rfl) ?_
  refine EL.done (by kernel_rfl) ?_
  refine EQ.code ?_
  refine EW.sq (by kernel_rfl) ?_
  refine EW.rg (by kernel_rfl) ?_
  refine EL.quick 1 [3, 4, 32] [(3, ia (IntKind.i64.wrap (62 + (IntKind.i64.wrap (Int.tmod a2 4))))), (4, ia a0), (32, ia (IntKind.i64.wrap (62 + (IntKind.i64.wrap (Int.tmod a2 4)))))] (by kernel_rfl) ?_
  obtain ⟨f2, H⟩ := ite_in H
  obtain ⟨f3, H⟩ := ite_in H
  obtain ⟨a3, f0, H⟩ := lt_out H
  refine EL.of (EO.make (xs := List.replicate (IntKind.i64.wrap (62 + (IntKind.i64.wrap (Int.tmod a2 4)))).toNat ((none, 0, 0) : Hdr)) hS Kd.hdr 25 24 24 .i64 .i64 (IntKind.i64.wrap (62 + (IntKind.i64.wrap (Int.tmod a2 4)))) (none, 0, 0) [sv none 0 ([] : List S27)] rfl 33 (by kernel_rfl) (by kernel_rfl) (by kernel_rfl) (by kernel_rfl) (by kernel_rfl) f2 f3 (fun w G => rfl) ?_)
  intro a4 w hS
  have hS : St B w (Ass.deep 25 27 kS27 (some ⟨a4, 0, none⟩) ((IntKind.i64.wrap (62 + (IntKind.i64.wrap (Int.tmod a2 4)))).toNat) a3 :: os) (rs) := by rw [f0]; exact St.madeDeep (et := 25) (et' := 27) (K := kS27) hS
  refine EL.as' ((33, sv (some ⟨a4, 0, none⟩) ((IntKind.i64.wrap (62 + (IntKind.i64.wrap (Int.tmod a2 4)))).toNat) a3) :: _) (by rw [f0]; (try unfold sv); rw [List.length_replicate, List.length_replicate]) ?_
  refine EL.quick 1 [3, 4, 5] [(3, ia (IntKind.i64.wrap (62 + (IntKind.i64.wrap (Int.tmod a2 4))))), (4, ia a0), (5, sv (some ⟨a4, 0, none⟩) ((IntKind.i64.wrap (62 + (IntKind.i64.wrap (Int.tmod a2 4)))).toNat) a3)] (by kernel_rfl) ?_
  refine EL.done (by kernel_rfl) ?_
  refine EQ.code ?_
  refine EW.sq (by kernel_rfl) ?_
  refine EW.rg (by kernel_rfl) ?_
  refine EL.quick 1 [3, 4, 5, 34] [(3, ia (IntKind.i64.wrap (62 + (IntKind.i64.wrap (Int.tmod a2 4))))), (4, ia a0), (5, sv (some ⟨a4, 0, none⟩) ((IntKind.i64.wrap (62 + (IntKind.i64.wrap (Int.tmod a2 4)))).toNat) a3), (34, ia a0)] (by kernel_rfl) ?_
  obtain ⟨f4, H⟩ := ite_in H
  obtain ⟨f5, H⟩ := ite_in H
  obtain ⟨a9, g5, H⟩ := lt_out H
  refine EL.of (EO.make hS kS27 27 25 16 .i64 .i64 a0 zS27 [ia 0, ib 0] a9 g5 35 (by kernel_rfl) (by kernel_rfl) (by kernel_rfl) (by kernel_rfl) (by kernel_rfl) f4 f5 (fun w G => ⟨[ia 0], [ib 0], rfl, rfl, ⟨[ib 0], [], rfl, rfl, rfl⟩⟩) ?_)
  intro b7 w hS
  refine EL.quick 1 [3, 4, 5, 6] [(3, ia (IntKind.i64.wrap (62 + (IntKind.i64.wrap (Int.tmod a2 4))))), (4, ia a0), (5, sv (some ⟨a4, 0, none⟩) ((IntKind.i64.wrap (62 + (IntKind.i64.wrap (Int.tmod a2 4)))).toNat) a3), (6, sv (some ⟨b7, 0, none⟩) a0.toNat a9)] (by kernel_rfl) ?_
  refine EL.done (by kernel_rfl) ?_
  refine EQ.code ?_
  refine EW.sq (by kernel_rfl) ?_
  refine EW.rg (by kernel_rfl) ?_
  refine EL.quick 2 [3, 4, 5, 6, 7, 8] [(3, ia (IntKind.i64.wrap (62 + (IntKind.i64.wrap (Int.tmod a2 4))))), (4, ia a0), (5, sv (some ⟨a4, 0, none⟩) ((IntKind.i64.wrap (62 + (IntKind.i64.wrap (Int.tmod a2 4)))).toNat) a3), (6, sv (some ⟨b7, 0, none⟩) a0.toNat a9), (7, .string (⟨#[]⟩ : ByteArray)), (8, .string (⟨#[102, 117, 110, 99, 10]⟩ : ByteArray))] (by kernel_rfl) ?_
  refine EL.done (by kernel_rfl) ?_
  refine EQ.code ?_
  obtain ⟨c9, g3, H⟩ := lt_out H
  refine EW.ct (fun a w => ∃ a6 : ByteArray, Sat 119 [(3, ia (IntKind.i64.wrap (62 + (IntKind.i64.wrap (Int.tmod a2 4))))), (4, ia a0), (5, sv (some ⟨a4, 0, none⟩) ((IntKind.i64.wrap (62 + (IntKind.i64.wrap (Int.tmod a2 4)))).toNat) a3), (6, sv (some ⟨b7, 0, none⟩) a0.toNat a9), (7, .string a6), (8, .string (⟨#[102, 117, 110, 99, 10]⟩ : ByteArray))] a ∧ St B w (Ass.own 27 kS27 (some ⟨b7, 0, none⟩) a0.toNat a9 :: Ass.deep 25 27 kS27 (some ⟨a4, 0, none⟩) ((IntKind.i64.wrap (62 + (IntKind.i64.wrap (Int.tmod a2 4)))).toNat) a3 :: os) (rs) ∧ c9 a6 = some d1) (by kernel_rfl) ?_ (fun a w hI => ?_)
  ·refine EW.sq (by kernel_rfl) ?_
   refine EW.rg (by kernel_rfl) ?_
   refine EL.quick 1 [3, 4, 5, 6, 7, 8, 9] [(3, ia (IntKind.i64.wrap (62 + (IntKind.i64.wrap (Int.tmod a2 4))))), (4, ia a0), (5, sv (some ⟨a4, 0, none⟩) ((IntKind.i64.wrap (62 + (IntKind.i64.wrap (Int.tmod a2 4)))).toNat) a3), (6, sv (some ⟨b7, 0, none⟩) a0.toNat a9), (7, .string (⟨#[]⟩ : ByteArray)), (8, .string (⟨#[102, 117, 110, 99, 10]⟩ : ByteArray)), (9, ia 0)] (by kernel_rfl) ?_
   refine EL.done (by kernel_rfl) ?_
   refine EQ.code ?_
   refine EW.bl 0 (by kernel_rfl) ?_
   refine EW.lp (fun n a w => ∃ b9 : ByteArray, ∃ c1 : Int, Sat 119 [(3, ia (IntKind.i64.wrap (62 + (IntKind.i64.wrap (Int.tmod a2 4))))), (4, ia a0), (5, sv (some ⟨a4, 0, none⟩) ((IntKind.i64.wrap (62 + (IntKind.i64.wrap (Int.tmod a2 4)))).toNat) a3), (6, sv (some ⟨b7, 0, none⟩) a0.toNat a9), (7, .string b9), (8, .string (⟨#[102, 117, 110, 99, 10]⟩ : ByteArray)), (9, ia c1)] a ∧ St B w (Ass.own 27 kS27 (some ⟨b7, 0, none⟩) a0.toNat a9 :: Ass.deep 25 27 kS27 (some ⟨a4, 0, none⟩) ((IntKind.i64.wrap (62 + (IntKind.i64.wrap (Int.tmod a2 4)))).toNat) a3 :: os) (rs) ∧ confidantlaw7_ImageLimits.l0 K a2 c9 n b9 c1 = some d1) K (by kernel_rfl) ?_ (fun n a w hI => ?_)
   ·refine EQ.keep [3, 4, 5, 6, 7, 8, 9] [(3, ia (IntKind.i64.wrap (62 + (IntKind.i64.wrap (Int.tmod a2 4))))), (4, ia a0), (5, sv (some ⟨a4, 0, none⟩) ((IntKind.i64.wrap (62 + (IntKind.i64.wrap (Int.tmod a2 4)))).toNat) a3), (6, sv (some ⟨b7, 0, none⟩) a0.toNat a9), (7, .string (⟨#[]⟩ : ByteArray)), (8, .string (⟨#[102, 117, 110, 99, 10]⟩ : ByteArray)), (9, ia 0)] (by kernel_rfl) ?_
    exact fun a ha => ⟨(⟨#[]⟩ : ByteArray), 0, ha, (hS.re [1, 1] [] rfl (sub_self)), H⟩
   obtain ⟨b9, c1, ha, hS, H⟩ := hI
   obtain _ | n := n
   ·simp [confidantlaw7_ImageLimits.l0] at H
   rw [confidantlaw7_ImageLimits.l0.eq_2] at H
   refine EW.at ?_ a ha
   clear ha a
   refine EW.sq (by kernel_rfl) ?_
   refine EW.sq (by kernel_rfl) ?_
   refine EW.rg (by kernel_rfl) ?_
   refine EL.quick 3 [3, 4, 5, 6, 7, 8, 9, 38] [(3, ia (IntKind.i64.wrap (62 + (IntKind.i64.wrap (Int.tmod a2 4))))), (4, ia a0), (5, sv (some ⟨a4, 0, none⟩) ((IntKind.i64.wrap (62 + (IntKind.i64.wrap (Int.tmod a2 4)))).toNat) a3), (6, sv (some ⟨b7, 0, none⟩) a0.toNat a9), (7, .string b9), (8, .string (⟨#[102, 117, 110, 99, 10]⟩ : ByteArray)), (9, ia c1), (38, .bool (decide (c1 < (IntKind.i64.wrap (62 + (IntKind.i64.wrap (Int.tmod a2 4)))))))] (by kernel_rfl) ?_
   refine EL.done (by kernel_rfl) ?_
   refine EQ.code ?_
   refine EW.cdP (c1 < (IntKind.i64.wrap (62 + (IntKind.i64.wrap (Int.tmod a2 4))))) (by kernel_rfl) (by kernel_rfl) (fun e3 => ?_) (fun e3 => ?_)
   ·rw [if_pos e3] at H
    refine EW.skip (by kernel_rfl) ?_
    refine EQ.code ?_
    refine EW.sq (by kernel_rfl) ?_
    refine EW.bl 1 (by kernel_rfl) ?_
    refine EW.rg (by kernel_rfl) ?_
    refine EL.quick 1 [3, 4, 5, 6, 8, 9, 41] [(3, ia (IntKind.i64.wrap (62 + (IntKind.i64.wrap (Int.tmod a2 4))))), (4, ia a0), (5, sv (some ⟨a4, 0, none⟩) ((IntKind.i64.wrap (62 + (IntKind.i64.wrap (Int.tmod a2 4)))).toNat) a3), (6, sv (some ⟨b7, 0, none⟩) a0.toNat a9), (8, .string (⟨#[102, 117, 110, 99, 10]⟩ : ByteArray)), (9, ia c1), (41, .string b9)] (by kernel_rfl) ?_
    obtain ⟨f6, H⟩ := ite_in H
    refine EL.of (EO.Y (YO.strCat b9 (⟨#[102, 117, 110, 99, 10]⟩ : ByteArray) 42 (by kernel_rfl) (by kernel_rfl) (by kernel_rfl) f6) ?_)
    refine EL.quick 1 [3, 4, 5, 6, 7, 8, 9] [(3, ia (IntKind.i64.wrap (62 + (IntKind.i64.wrap (Int.tmod a2 4))))), (4, ia a0), (5, sv (some ⟨a4, 0, none⟩) ((IntKind.i64.wrap (62 + (IntKind.i64.wrap (Int.tmod a2 4)))).toNat) a3), (6, sv (some ⟨b7, 0, none⟩) a0.toNat a9), (7, .string (b9 ++ (⟨#[102, 117, 110, 99, 10]⟩ : ByteArray))), (8, .string (⟨#[102, 117, 110, 99, 10]⟩ : ByteArray)), (9, ia c1)] (by kernel_rfl) ?_
    refine EL.done (by kernel_rfl) ?_
    refine EQ.pop ?_
    refine EQ.code ?_
    refine EW.rg (by kernel_rfl) ?_
    refine EL.quick 3 [3, 4, 5, 6, 7, 8, 9] [(3, ia (IntKind.i64.wrap (62 + (IntKind.i64.wrap (Int.tmod a2 4))))), (4, ia a0), (5, sv (some ⟨a4, 0, none⟩) ((IntKind.i64.wrap (62 + (IntKind.i64.wrap (Int.tmod a2 4)))).toNat) a3), (6, sv (some ⟨b7, 0, none⟩) a0.toNat a9), (7, .string (b9 ++ (⟨#[102, 117, 110, 99, 10]⟩ : ByteArray))), (8, .string (⟨#[102, 117, 110, 99, 10]⟩ : ByteArray)), (9, ia (IntKind.i64.wrap (c1 + 1)))] (by kernel_rfl) ?_
    refine EL.done (by kernel_rfl) ?_
    refine EQ.to ?_
    refine EQ.keep [3, 4, 5, 6, 7, 8, 9] [(3, ia (IntKind.i64.wrap (62 + (IntKind.i64.wrap (Int.tmod a2 4))))), (4, ia a0), (5, sv (some ⟨a4, 0, none⟩) ((IntKind.i64.wrap (62 + (IntKind.i64.wrap (Int.tmod a2 4)))).toNat) a3), (6, sv (some ⟨b7, 0, none⟩) a0.toNat a9), (7, .string (b9 ++ (⟨#[102, 117, 110, 99, 10]⟩ : ByteArray))), (8, .string (⟨#[102, 117, 110, 99, 10]⟩ : ByteArray)), (9, ia (IntKind.i64.wrap (c1 + 1)))] (by kernel_rfl) ?_
    exact fun a ha => ⟨n, Nat.lt_succ_self n, (b9 ++ (⟨#[102, 117, 110, 99, 10]⟩ : ByteArray)), IntKind.i64.wrap (c1 + 1), ha, (hS.re [1, 1] [] rfl (sub_self)), H⟩
   rw [if_neg e3] at H
   refine EW.exit (id := 0) (by kernel_rfl) ?_
   refine EQ.exitCode ?_
   refine EQ.exitTo ?_
   refine EQ.exitHere ?_
   refine EQ.to ?_
   refine EQ.keep [3, 4, 5, 6, 7, 8] [(3, ia (IntKind.i64.wrap (62 + (IntKind.i64.wrap (Int.tmod a2 4))))), (4, ia a0), (5, sv (some ⟨a4, 0, none⟩) ((IntKind.i64.wrap (62 + (IntKind.i64.wrap (Int.tmod a2 4)))).toNat) a3), (6, sv (some ⟨b7, 0, none⟩) a0.toNat a9), (7, .string b9), (8, .string (⟨#[102, 117, 110, 99, 10]⟩ : ByteArray))] (by kernel_rfl) ?_
   exact fun a ha => ⟨b9, ha, (hS.re [1, 1] [] rfl (sub_self)), H⟩
  obtain ⟨a6, ha, hS, H⟩ := hI
  rw [g3] at H
  (try dsimp only at H)
  refine EW.at ?_ a ha
  clear ha a
  obtain ⟨d0, g4, H⟩ := lt_out H
  refine EW.ct (fun a w => ∃ b4 : List S27, ∃ c3 : ByteArray, ∃ c4 : Option Addr, ∃ c5 : Nat, Sat 119 [(3, ia (IntKind.i64.wrap (62 + (IntKind.i64.wrap (Int.tmod a2 4))))), (4, ia a0), (5, sv (some ⟨a4, 0, none⟩) ((IntKind.i64.wrap (62 + (IntKind.i64.wrap (Int.tmod a2 4)))).toNat) a3), (6, sv c4 c5 b4), (7, .string a6), (8, .string c3)] a ∧ St B w (Ass.own 27 kS27 c4 c5 b4 :: Ass.deep 25 27 kS27 (some ⟨a4, 0, none⟩) ((IntKind.i64.wrap (62 + (IntKind.i64.wrap (Int.tmod a2 4)))).toNat) a3 :: os) (rs) ∧ d0 b4 c3 = some d1) (by kernel_rfl) ?_ (fun a w hI => ?_)
  ·refine EW.sq (by kernel_rfl) ?_
   refine EW.rg (by kernel_rfl) ?_
   refine EL.quick 1 [3, 4, 5, 6, 7, 8, 10] [(3, ia (IntKind.i64.wrap (62 + (IntKind.i64.wrap (Int.tmod a2 4))))), (4, ia a0), (5, sv (some ⟨a4, 0, none⟩) ((IntKind.i64.wrap (62 + (IntKind.i64.wrap (Int.tmod a2 4)))).toNat) a3), (6, sv (some ⟨b7, 0, none⟩) a0.toNat a9), (7, .string a6), (8, .string (⟨#[102, 117, 110, 99, 10]⟩ : ByteArray)), (10, ia 0)] (by kernel_rfl) ?_
   refine EL.done (by kernel_rfl) ?_
   refine EQ.code ?_
   refine EW.bl 2 (by kernel_rfl) ?_
   refine EW.lp (fun n a w => ∃ c0 : List S27, ∃ b5 : ByteArray, ∃ a7 : Int, ∃ c8 : Option Addr, ∃ b6 : Nat, Sat 119 [(3, ia (IntKind.i64.wrap (62 + (IntKind.i64.wrap (Int.tmod a2 4))))), (4, ia a0), (5, sv (some ⟨a4, 0, none⟩) ((IntKind.i64.wrap (62 + (IntKind.i64.wrap (Int.tmod a2 4)))).toNat) a3), (6, sv c8 b6 c0), (7, .string a6), (8, .string b5), (10, ia a7)] a ∧ St B w (Ass.own 27 kS27 c8 b6 c0 :: Ass.deep 25 27 kS27 (some ⟨a4, 0, none⟩) ((IntKind.i64.wrap (62 + (IntKind.i64.wrap (Int.tmod a2 4)))).toNat) a3 :: os) (rs) ∧ confidantlaw7_ImageLimits.l1 K a0 d0 n c0 b5 a7 = some d1) K (by kernel_rfl) ?_ (fun n a w hI => ?_)
   ·refine EQ.keep [3, 4, 5, 6, 7, 8, 10] [(3, ia (IntKind.i64.wrap (62 + (IntKind.i64.wrap (Int.tmod a2 4))))), (4, ia a0), (5, sv (some ⟨a4, 0, none⟩) ((IntKind.i64.wrap (62 + (IntKind.i64.wrap (Int.tmod a2 4)))).toNat) a3), (6, sv (some ⟨b7, 0, none⟩) a0.toNat a9), (7, .string a6), (8, .string (⟨#[102, 117, 110, 99, 10]⟩ : ByteArray)), (10, ia 0)] (by kernel_rfl) ?_
    exact fun a ha => ⟨a9, (⟨#[102, 117, 110, 99, 10]⟩ : ByteArray), 0, (some ⟨b7, 0, none⟩), a0.toNat, ha, (hS.re [1, 1] [] rfl (sub_self)), H⟩
   obtain ⟨c0, b5, a7, c8, b6, ha, hS, H⟩ := hI
   obtain _ | n := n
   ·simp [confidantlaw7_ImageLimits.l1] at H
   rw [confidantlaw7_ImageLimits.l1.eq_2] at H
   refine EW.at ?_ a ha
   clear ha a
   refine EW.sq (by kernel_rfl) ?_
   refine EW.sq (by kernel_rfl) ?_
   refine EW.rg (by kernel_rfl) ?_
   refine EL.quick 3 [3, 4, 5, 6, 7, 8, 10, 45] [(3, ia (IntKind.i64.wrap (62 + (IntKind.i64.wrap (Int.tmod a2 4))))), (4, ia a0), (5, sv (some ⟨a4, 0, none⟩) ((IntKind.i64.wrap (62 + (IntKind.i64.wrap (Int.tmod a2 4)))).toNat) a3), (6, sv c8 b6 c0), (7, .string a6), (8, .string b5), (10, ia a7), (45, .bool (decide (a7 < a0)))] (by kernel_rfl) ?_
   refine EL.done (by kernel_rfl) ?_
   refine EQ.code ?_
   refine EW.cdP (a7 < a0) (by kernel_rfl) (by kernel_rfl) (fun e4 => ?_) (fun e4 => ?_)
   ·rw [if_pos e4] at H
    refine EW.skip (by kernel_rfl) ?_
    refine EQ.code ?_
    refine EW.sq (by kernel_rfl) ?_
    refine EW.bl 3 (by kernel_rfl) ?_
    refine EW.sq (by kernel_rfl) ?_
    refine EW.rg (by kernel_rfl) ?_
    refine EL.quick 3 [3, 4, 5, 6, 7, 8, 10, 48, 49, 50] [(3, ia (IntKind.i64.wrap (62 + (IntKind.i64.wrap (Int.tmod a2 4))))), (4, ia a0), (5, sv (some ⟨a4, 0, none⟩) ((IntKind.i64.wrap (62 + (IntKind.i64.wrap (Int.tmod a2 4)))).toNat) a3), (6, sv c8 b6 c0), (7, .string a6), (8, .string b5), (10, ia a7), (48, sv c8 b6 c0), (49, ia a7), (50, ag [ia 25, ib 0])] (by kernel_rfl) ?_
    obtain ⟨e5, H⟩ := ite_in H
    obtain ⟨e6, H⟩ := ite_in H
    obtain ⟨c6, rfl⟩ := St.rd_some hS (Rd.own 0 27 rfl) e5 e6
    refine EL.of (EO.Y (YO.idx 25 2 c6 c0.length b6 .i64 a7 51 (by kernel_rfl) (by kernel_rfl) (by kernel_rfl) (by kernel_rfl) e5 e6) ?_)
    obtain ⟨c7, f1, H⟩ := lt_out H
    refine EL.of (EO.storeEl hS 0 kS27 27 c6 b6 c0 rfl a7 e5 e6 zS27 27 2 0 rfl (ag [ia 25, ib 0]) (⟨25, 0⟩ : S27) c7 f1 (Ass.own 27 kS27 (some c6) b6 c7 :: Ass.deep 25 27 kS27 (some ⟨a4, 0, none⟩) ((IntKind.i64.wrap (62 + (IntKind.i64.wrap (Int.tmod a2 4)))).toNat) a3 :: os) (by kernel_rfl) (by kernel_rfl) (by kernel_rfl) (by kernel_rfl) (by kernel_rfl) (by kernel_rfl) (fun w G vs hr h => set_whole h (by kernel_rfl) ⟨[ia 25], [ib 0], rfl, rfl, ⟨[ib 0], [], rfl, rfl, rfl⟩⟩) rfl ?_)
    intro w hS
    refine EL.keep [3, 4, 5, 6, 7, 8, 10] [(3, ia (IntKind.i64.wrap (62 + (IntKind.i64.wrap (Int.tmod a2 4))))), (4, ia a0), (5, sv (some ⟨a4, 0, none⟩) ((IntKind.i64.wrap (62 + (IntKind.i64.wrap (Int.tmod a2 4)))).toNat) a3), (6, sv (some c6) b6 c0), (7, .string a6), (8, .string b5), (10, ia a7)] (by kernel_rfl) ?_
    refine EL.as' [(3, ia (IntKind.i64.wrap (62 + (IntKind.i64.wrap (Int.tmod a2 4))))), (4, ia a0), (5, sv (some ⟨a4, 0, none⟩) ((IntKind.i64.wrap (62 + (IntKind.i64.wrap (Int.tmod a2 4)))).toNat) a3), (6, sv (some c6) b6 c7), (7, .string a6), (8, .string b5), (10, ia a7)] (by simp only [sv, f1, List.length_set]) ?_
    refine EL.done (by kernel_rfl) ?_
    refine EQ.code ?_
    refine EW.rg (by kernel_rfl) ?_
    refine EL.quick 1 [3, 4, 5, 6, 7, 10, 52] [(3, ia (IntKind.i64.wrap (62 + (IntKind.i64.wrap (Int.tmod a2 4))))), (4, ia a0), (5, sv (some ⟨a4, 0, none⟩) ((IntKind.i64.wrap (62 + (IntKind.i64.wrap (Int.tmod a2 4)))).toNat) a3), (6, sv (some c6) b6 c7), (7, .string a6), (10, ia a7), (52, .string b5)] (by kernel_rfl) ?_
    obtain ⟨f7, H⟩ := ite_in H
    refine EL.of (EO.Y (YO.strCat b5 (⟨#[114, 101, 116, 10]⟩ : ByteArray) 53 (by kernel_rfl) (by kernel_rfl) (by kernel_rfl) f7) ?_)
    refine EL.quick 1 [3, 4, 5, 6, 7, 8, 10] [(3, ia (IntKind.i64.wrap (62 + (IntKind.i64.wrap (Int.tmod a2 4))))), (4, ia a0), (5, sv (some ⟨a4, 0, none⟩) ((IntKind.i64.wrap (62 + (IntKind.i64.wrap (Int.tmod a2 4)))).toNat) a3), (6, sv (some c6) b6 c7), (7, .string a6), (8, .string (b5 ++ (⟨#[114, 101, 116, 10]⟩ : ByteArray))), (10, ia a7)] (by kernel_rfl) ?_
    refine EL.done (by kernel_rfl) ?_
    refine EQ.pop ?_
    refine EQ.code ?_
    refine EW.rg (by kernel_rfl) ?_
    refine EL.quick 3 [3, 4, 5, 6, 7, 8, 10] [(3, ia (IntKind.i64.wrap (62 + (IntKind.i64.wrap (Int.tmod a2 4))))), (4, ia a0), (5, sv (some ⟨a4, 0, none⟩) ((IntKind.i64.wrap (62 + (IntKind.i64.wrap (Int.tmod a2 4)))).toNat) a3), (6, sv (some c6) b6 c7), (7, .string a6), (8, .string (b5 ++ (⟨#[114, 101, 116, 10]⟩ : ByteArray))), (10, ia (IntKind.i64.wrap (a7 + 1)))] (by kernel_rfl) ?_
    refine EL.done (by kernel_rfl) ?_
    refine EQ.to ?_
    refine EQ.keep [3, 4, 5, 6, 7, 8, 10] [(3, ia (IntKind.i64.wrap (62 + (IntKind.i64.wrap (Int.tmod a2 4))))), (4, ia a0), (5, sv (some ⟨a4, 0, none⟩) ((IntKind.i64.wrap (62 + (IntKind.i64.wrap (Int.tmod a2 4)))).toNat) a3), (6, sv (some c6) b6 c7), (7, .string a6), (8, .string (b5 ++ (⟨#[114, 101, 116, 10]⟩ : ByteArray))), (10, ia (IntKind.i64.wrap (a7 + 1)))] (by kernel_rfl) ?_
    exact fun a ha => ⟨n, Nat.lt_succ_self n, c7, (b5 ++ (⟨#[114, 101, 116, 10]⟩ : ByteArray)), IntKind.i64.wrap (a7 + 1), (some c6), b6, ha, (hS.re [1, 1] [] rfl (sub_self)), H⟩
   rw [if_neg e4] at H
   refine EW.exit (id := 2) (by kernel_rfl) ?_
   refine EQ.exitCode ?_
   refine EQ.exitTo ?_
   refine EQ.exitHere ?_
   refine EQ.to ?_
   refine EQ.keep [3, 4, 5, 6, 7, 8] [(3, ia (IntKind.i64.wrap (62 + (IntKind.i64.wrap (Int.tmod a2 4))))), (4, ia a0), (5, sv (some ⟨a4, 0, none⟩) ((IntKind.i64.wrap (62 + (IntKind.i64.wrap (Int.tmod a2 4)))).toNat) a3), (6, sv c8 b6 c0), (7, .string a6), (8, .string b5)] (by kernel_rfl) ?_
   exact fun a ha => ⟨c0, b5, c8, b6, ha, (hS.re [1, 1] [] rfl (sub_self)), H⟩
  obtain ⟨b4, c3, c4, c5, ha, hS, H⟩ := hI
  rw [g4] at H
  (try dsimp only at H)
  refine EW.at ?_ a ha
  clear ha a
  refine EW.sq (by kernel_rfl) ?_
  refine EW.rg (by kernel_rfl) ?_
  refine EL.quick 1 [3, 4, 6, 7, 8, 55] [(3, ia (IntKind.i64.wrap (62 + (IntKind.i64.wrap (Int.tmod a2 4))))), (4, ia a0), (6, sv c4 c5 b4), (7, .string a6), (8, .string c3), (55, sv (some ⟨a4, 0, none⟩) ((IntKind.i64.wrap (62 + (IntKind.i64.wrap (Int.tmod a2 4)))).toNat) a3)] (by kernel_rfl) ?_
  have hS := St.frDeep hS 1 rfl
  have hS : St B _ (Ass.own 27 kS27 c4 c5 b4 :: os) (Ro.sl (Kd.slice kS27) (some ⟨a4, 0, none⟩) ((IntKind.i64.wrap (62 + (IntKind.i64.wrap (Int.tmod a2 4)))).toNat) a3 :: rs) := hS.re [] [] rfl (sub_cons 0 rfl (sub_tail (sub_self)))
  obtain ⟨e7, c2, f9, H⟩ := b2_out H
  have hq := image_Put.calls f9 hS
  refine EL.of (EO.callD 6 [sv (some ⟨a4, 0, none⟩) ((IntKind.i64.wrap (62 + (IntKind.i64.wrap (Int.tmod a2 4)))).toNat) a3] _ 56 (by kernel_rfl) (by kernel_rfl) (by kernel_rfl) hq ?_)
  rintro v w ⟨e8, e9, rfl, hS⟩
  refine EL.quick 5 [3, 4, 6, 7, 8, 12] [(3, ia (IntKind.i64.wrap (62 + (IntKind.i64.wrap (Int.tmod a2 4))))), (4, ia a0), (6, sv c4 c5 b4), (7, .string a6), (8, .string c3), (12, ia c2)] (by kernel_rfl) ?_
  refine EL.done (by kernel_rfl) ?_
  refine EQ.code ?_
  refine EW.sq (by kernel_rfl) ?_
  refine EW.rg (by kernel_rfl) ?_
  refine EL.quick 1 [3, 4, 7, 8, 12, 60] [(3, ia (IntKind.i64.wrap (62 + (IntKind.i64.wrap (Int.tmod a2 4))))), (4, ia a0), (7, .string a6), (8, .string c3), (12, ia c2), (60, sv c4 c5 b4)] (by kernel_rfl) ?_
  refine EL.of (EO.lit (xs := ([(c4, b4.length, c5)] : List Hdr)) hS Kd.hdr 25 24 1 #[(0, sv c4 c5 b4)] [sv c4 c5 b4] 61 (by kernel_rfl) (by kernel_rfl) (by kernel_rfl) (fun _ => (by kernel_rfl)) rfl (by kernel_rfl) (fun w G hr => ⟨[sv c4 c5 b4], [], rfl, rfl, rfl⟩) ?_)
  intro e1 w hS
  have hS := St.as (os' := Ass.deep 25 27 kS27 (some ⟨e1, 0, none⟩) 1 ([b4] : List (List S27)) :: Ass.own 5 (Kd.int .u8) e8 e9 e7 :: os) (St.fold (B := B) (os := _) (rs := _) (et := 25) (et' := 27) (K := kS27) (hs := [(c4, b4.length, c5)]) (xs := ([b4] : List (List S27))) ⟨rfl, trivial⟩ (St.re hS [2, 1] [] rfl sub_self)) rfl
  have hS := St.frDeep hS 0 rfl
  have hS : St B _ (Ass.own 5 (Kd.int .u8) e8 e9 e7 :: os) (Ro.sl (Kd.slice kS27) (some ⟨e1, 0, none⟩) 1 ([b4] : List (List S27)) :: Ro.sl (Kd.slice kS27) (some ⟨a4, 0, none⟩) ((IntKind.i64.wrap (62 + (IntKind.i64.wrap (Int.tmod a2 4)))).toNat) a3 :: rs) := hS.re [] [] rfl (sub_cons 0 rfl (sub_tail (sub_self)))
  obtain ⟨g7, b8, g0, H⟩ := b2_out H
  have hq := image_Put.calls g0 hS
  refine EL.of (EO.callD 6 [sv (some ⟨e1, 0, none⟩) 1 ([b4] : List (List S27))] _ 62 (by kernel_rfl) (by kernel_rfl) (by kernel_rfl) hq ?_)
  rintro v w ⟨i0, i3, rfl, hS⟩
  refine EL.quick 5 [3, 4, 7, 8, 12, 14] [(3, ia (IntKind.i64.wrap (62 + (IntKind.i64.wrap (Int.tmod a2 4))))), (4, ia a0), (7, .string a6), (8, .string c3), (12, ia c2), (14, ia b8)] (by kernel_rfl) ?_
  refine EL.done (by kernel_rfl) ?_
  refine EQ.code ?_
  refine EW.sq (by kernel_rfl) ?_
  refine EW.rg (by kernel_rfl) ?_
  refine EL.quick 1 [3, 4, 8, 12, 14, 66] [(3, ia (IntKind.i64.wrap (62 + (IntKind.i64.wrap (Int.tmod a2 4))))), (4, ia a0), (8, .string c3), (12, ia c2), (14, ia b8), (66, .string a6)] (by kernel_rfl) ?_
  obtain ⟨g8, a5, b0, g1, H⟩ := b3_out H
  have hq := image_Parse.calls g1 hS gB
  refine EL.of (EO.callD 7 [.string a6] _ 67 (by kernel_rfl) (by kernel_rfl) (by kernel_rfl) hq ?_)
  rintro v w ⟨i1, i4, rfl, hS⟩
  refine EL.quick 7 [3, 4, 8, 12, 14, 16, 17] [(3, ia (IntKind.i64.wrap (62 + (IntKind.i64.wrap (Int.tmod a2 4))))), (4, ia a0), (8, .string c3), (12, ia c2), (14, ia b8), (16, ia a5), (17, ia b0)] (by kernel_rfl) ?_
  refine EL.done (by kernel_rfl) ?_
  refine EQ.code ?_
  refine EW.sq (by kernel_rfl) ?_
  refine EW.rg (by kernel_rfl) ?_
  refine EL.quick 1 [3, 4, 12, 14, 16, 17, 72] [(3, ia (IntKind.i64.wrap (62 + (IntKind.i64.wrap (Int.tmod a2 4))))), (4, ia a0), (12, ia c2), (14, ia b8), (16, ia a5), (17, ia b0), (72, .string c3)] (by kernel_rfl) ?_
  obtain ⟨g9, a1, a8, g2, H⟩ := b3_out H
  have hq := image_Parse.calls g2 hS gB
  refine EL.of (EO.callD 7 [.string c3] _ 73 (by kernel_rfl) (by kernel_rfl) (by kernel_rfl) hq ?_)
  rintro v w ⟨i2, i5, rfl, hS⟩
  refine EL.quick 7 [3, 4, 12, 14, 16, 17, 19, 20] [(3, ia (IntKind.i64.wrap (62 + (IntKind.i64.wrap (Int.tmod a2 4))))), (4, ia a0), (12, ia c2), (14, ia b8), (16, ia a5), (17, ia b0), (19, ia a1), (20, ia a8)] (by kernel_rfl) ?_
  refine EL.done (by kernel_rfl) ?_
  refine EQ.code ?_
  refine EW.sq (by kernel_rfl) ?_
  refine EW.rg (by kernel_rfl) ?_
  refine EL.quick 6 [3, 4, 14, 16, 17, 19, 20, 82] [(3, ia (IntKind.i64.wrap (62 + (IntKind.i64.wrap (Int.tmod a2 4))))), (4, ia a0), (14, ia b8), (16, ia a5), (17, ia b0), (19, ia a1), (20, ia a8), (82, .bool (((decide (c2 = 22)) == (decide ((IntKind.i64.wrap (62 + (IntKind.i64.wrap (Int.tmod a2 4)))) > 64)))))] (by kernel_rfl) ?_
  by_cases d3 : ((decide (c2 = 22)) == (decide ((IntKind.i64.wrap (62 + (IntKind.i64.wrap (Int.tmod a2 4)))) > 64))) = true
  ·rw [if_pos d3] at H
   refine EL.keep [3, 4, 14, 16, 17, 19, 20, 82] [(3, ia (IntKind.i64.wrap (62 + (IntKind.i64.wrap (Int.tmod a2 4))))), (4, ia a0), (14, ia b8), (16, ia a5), (17, ia b0), (19, ia a1), (20, ia a8), (82, .bool (((decide (c2 = 22)) == (decide ((IntKind.i64.wrap (62 + (IntKind.i64.wrap (Int.tmod a2 4)))) > 64)))))] (by kernel_rfl) ?_
   refine EL.as' [(3, ia (IntKind.i64.wrap (62 + (IntKind.i64.wrap (Int.tmod a2 4))))), (4, ia a0), (14, ia b8), (16, ia a5), (17, ia b0), (19, ia a1), (20, ia a8), (82, .bool (true))] (by simp only [sv, d3, Bool.not_true, Bool.not_false]) ?_
   refine EL.quick 7 [3, 4, 16, 17, 19, 20, 89] [(3, ia (IntKind.i64.wrap (62 + (IntKind.i64.wrap (Int.tmod a2 4))))), (4, ia a0), (16, ia a5), (17, ia b0), (19, ia a1), (20, ia a8), (89, .bool (((decide (b8 = 22)) == (decide (a0 > 512)))))] (by kernel_rfl) ?_
   by_cases d4 : ((decide (b8 = 22)) == (decide (a0 > 512))) = true
   ·rw [if_pos d4] at H
    refine EL.keep [3, 4, 16, 17, 19, 20, 89] [(3, ia (IntKind.i64.wrap (62 + (IntKind.i64.wrap (Int.tmod a2 4))))), (4, ia a0), (16, ia a5), (17, ia b0), (19, ia a1), (20, ia a8), (89, .bool (((decide (b8 = 22)) == (decide (a0 > 512)))))] (by kernel_rfl) ?_
    refine EL.as' [(3, ia (IntKind.i64.wrap (62 + (IntKind.i64.wrap (Int.tmod a2 4))))), (4, ia a0), (16, ia a5), (17, ia b0), (19, ia a1), (20, ia a8), (89, .bool (true))] (by simp only [sv, d4, Bool.not_true, Bool.not_false]) ?_
    refine EL.quick 7 [3, 4, 16, 19, 20, 96] [(3, ia (IntKind.i64.wrap (62 + (IntKind.i64.wrap (Int.tmod a2 4))))), (4, ia a0), (16, ia a5), (19, ia a1), (20, ia a8), (96, .bool (((decide (b0 = 22)) == (decide ((IntKind.i64.wrap (62 + (IntKind.i64.wrap (Int.tmod a2 4)))) > 64)))))] (by kernel_rfl) ?_
    by_cases d5 : ((decide (b0 = 22)) == (decide ((IntKind.i64.wrap (62 + (IntKind.i64.wrap (Int.tmod a2 4)))) > 64))) = true
    ·rw [if_pos d5] at H
     refine EL.keep [3, 4, 16, 19, 20, 96] [(3, ia (IntKind.i64.wrap (62 + (IntKind.i64.wrap (Int.tmod a2 4))))), (4, ia a0), (16, ia a5), (19, ia a1), (20, ia a8), (96, .bool (((decide (b0 = 22)) == (decide ((IntKind.i64.wrap (62 + (IntKind.i64.wrap (Int.tmod a2 4)))) > 64)))))] (by kernel_rfl) ?_
     refine EL.as' [(3, ia (IntKind.i64.wrap (62 + (IntKind.i64.wrap (Int.tmod a2 4))))), (4, ia a0), (16, ia a5), (19, ia a1), (20, ia a8), (96, .bool (true))] (by simp only [sv, d5, Bool.not_true, Bool.not_false]) ?_
     refine EL.quick 7 [3, 4, 16, 19, 103] [(3, ia (IntKind.i64.wrap (62 + (IntKind.i64.wrap (Int.tmod a2 4))))), (4, ia a0), (16, ia a5), (19, ia a1), (103, .bool (((decide (a8 = 22)) == (decide (a0 > 512)))))] (by kernel_rfl) ?_
     by_cases d6 : ((decide (a8 = 22)) == (decide (a0 > 512))) = true
     ·rw [if_pos d6] at H
      refine EL.keep [3, 4, 16, 19, 103] [(3, ia (IntKind.i64.wrap (62 + (IntKind.i64.wrap (Int.tmod a2 4))))), (4, ia a0), (16, ia a5), (19, ia a1), (103, .bool (((decide (a8 = 22)) == (decide (a0 > 512)))))] (by kernel_rfl) ?_
      refine EL.as' [(3, ia (IntKind.i64.wrap (62 + (IntKind.i64.wrap (Int.tmod a2 4))))), (4, ia a0), (16, ia a5), (19, ia a1), (103, .bool (true))] (by simp only [sv, d6, Bool.not_true, Bool.not_false]) ?_
      refine EL.quick 3 [4, 16, 19, 103, 106] [(4, ia a0), (16, ia a5), (19, ia a1), (103, .bool (true)), (106, .bool (decide ((IntKind.i64.wrap (62 + (IntKind.i64.wrap (Int.tmod a2 4)))) ≤ 64)))] (by kernel_rfl) ?_
      by_cases d7 : (IntKind.i64.wrap (62 + (IntKind.i64.wrap (Int.tmod a2 4)))) ≤ 64
      ·rw [if_pos d7] at H
       refine EL.keep [4, 16, 19, 103, 106] [(4, ia a0), (16, ia a5), (19, ia a1), (103, .bool (true)), (106, .bool (decide ((IntKind.i64.wrap (62 + (IntKind.i64.wrap (Int.tmod a2 4)))) ≤ 64)))] (by kernel_rfl) ?_
       refine EL.as' [(4, ia a0), (16, ia a5), (19, ia a1), (103, .bool (true)), (106, .bool (true))] (by simp only [sv, dec_t d7, Bool.not_true, Bool.not_false]) ?_
       refine EL.quick 8 [19, 111, 114] [(19, ia a1), (111, .bool (true)), (114, .bool (decide (a0 ≤ 512)))] (by kernel_rfl) ?_
       by_cases d8 : a0 ≤ 512
       ·rw [if_pos d8] at H
        refine EL.keep [19, 111, 114] [(19, ia a1), (111, .bool (true)), (114, .bool (decide (a0 ≤ 512)))] (by kernel_rfl) ?_
        refine EL.as' [(19, ia a1), (111, .bool (true)), (114, .bool (true))] (by simp only [sv, dec_t d8, Bool.not_true, Bool.not_false]) ?_
        refine EL.quick 5 [2] [(2, .bool (true))] (by kernel_rfl) ?_
        refine EL.done (by kernel_rfl) ?_
        refine EQ.code ?_
        refine EW.ret (by kernel_rfl) ?_
        obtain rfl := Option.some.inj H
        exact EQ.leave (.bool (true)) (by kernel_rfl) ⟨_, rfl, rfl, (hS.re [] [0, 0, 0, 0] rfl (sub_tail (sub_tail (sub_self))))⟩
       rw [if_neg d8] at H
       refine EL.keep [19, 111, 114] [(19, ia a1), (111, .bool (true)), (114, .bool (decide (a0 ≤ 512)))] (by kernel_rfl) ?_
       refine EL.as' [(19, ia a1), (111, .bool (true)), (114, .bool (false))] (by simp only [sv, dec_f d8, Bool.not_true, Bool.not_false]) ?_
       refine EL.quick 5 [2] [(2, .bool (decide (a1 = 513)))] (by kernel_rfl) ?_
       refine EL.done (by kernel_rfl) ?_
       refine EQ.code ?_
       refine EW.ret (by kernel_rfl) ?_
       obtain rfl := Option.some.inj H
       exact EQ.leave (.bool (decide (a1 = 513))) (by kernel_rfl) ⟨_, rfl, rfl, (hS.re [] [0, 0, 0, 0] rfl (sub_tail (sub_tail (sub_self))))⟩
      rw [if_neg d7] at H
      refine EL.keep [4, 16, 19, 103, 106] [(4, ia a0), (16, ia a5), (19, ia a1), (103, .bool (true)), (106, .bool (decide ((IntKind.i64.wrap (62 + (IntKind.i64.wrap (Int.tmod a2 4)))) ≤ 64)))] (by kernel_rfl) ?_
      refine EL.as' [(4, ia a0), (16, ia a5), (19, ia a1), (103, .bool (true)), (106, .bool (false))] (by simp only [sv, dec_f d7, Bool.not_true, Bool.not_false]) ?_
      refine EL.quick 5 [4, 19, 111] [(4, ia a0), (19, ia a1), (111, .bool (decide (a5 = 64)))] (by kernel_rfl) ?_
      by_cases d9 : a5 = 64
      ·rw [if_pos d9] at H
       refine EL.keep [4, 19, 111] [(4, ia a0), (19, ia a1), (111, .bool (decide (a5 = 64)))] (by kernel_rfl) ?_
       refine EL.as' [(4, ia a0), (19, ia a1), (111, .bool (true))] (by simp only [sv, dec_t d9, Bool.not_true, Bool.not_false]) ?_
       refine EL.quick 3 [19, 111, 114] [(19, ia a1), (111, .bool (true)), (114, .bool (decide (a0 ≤ 512)))] (by kernel_rfl) ?_
       by_cases e0 : a0 ≤ 512
       ·rw [if_pos e0] at H
        refine EL.keep [19, 111, 114] [(19, ia a1), (111, .bool (true)), (114, .bool (decide (a0 ≤ 512)))] (by kernel_rfl) ?_
        refine EL.as' [(19, ia a1), (111, .bool (true)), (114, .bool (true))] (by simp only [sv, dec_t e0, Bool.not_true, Bool.not_false]) ?_
        refine EL.quick 5 [2] [(2, .bool (true))] (by kernel_rfl) ?_
        refine EL.done (by kernel_rfl) ?_
        refine EQ.code ?_
        refine EW.ret (by kernel_rfl) ?_
        obtain rfl := Option.some.inj H
        exact EQ.leave (.bool (true)) (by kernel_rfl) ⟨_, rfl, rfl, (hS.re [] [0, 0, 0, 0] rfl (sub_tail (sub_tail (sub_self))))⟩
       rw [if_neg e0] at H
       refine EL.keep [19, 111, 114] [(19, ia a1), (111, .bool (true)), (114, .bool (decide (a0 ≤ 512)))] (by kernel_rfl) ?_
       refine EL.as' [(19, ia a1), (111, .bool (true)), (114, .bool (false))] (by simp only [sv, dec_f e0, Bool.not_true, Bool.not_false]) ?_
       refine EL.quick 5 [2] [(2, .bool (decide (a1 = 513)))] (by kernel_rfl) ?_
       refine EL.done (by kernel_rfl) ?_
       refine EQ.code ?_
       refine EW.ret (by kernel_rfl) ?_
       obtain rfl := Option.some.inj H
       exact EQ.leave (.bool (decide (a1 = 513))) (by kernel_rfl) ⟨_, rfl, rfl, (hS.re [] [0, 0, 0, 0] rfl (sub_tail (sub_tail (sub_self))))⟩
      rw [if_neg d9] at H
      refine EL.keep [4, 19, 111] [(4, ia a0), (19, ia a1), (111, .bool (decide (a5 = 64)))] (by kernel_rfl) ?_
      refine EL.as' [(4, ia a0), (19, ia a1), (111, .bool (false))] (by simp only [sv, dec_f d9, Bool.not_true, Bool.not_false]) ?_
      refine EL.quick 8 [2] [(2, .bool (false))] (by kernel_rfl) ?_
      refine EL.done (by kernel_rfl) ?_
      refine EQ.code ?_
      refine EW.ret (by kernel_rfl) ?_
      obtain rfl := Option.some.inj H
      exact EQ.leave (.bool (false)) (by kernel_rfl) ⟨_, rfl, rfl, (hS.re [] [0, 0, 0, 0] rfl (sub_tail (sub_tail (sub_self))))⟩
     rw [if_neg d6] at H
     refine EL.keep [3, 4, 16, 19, 103] [(3, ia (IntKind.i64.wrap (62 + (IntKind.i64.wrap (Int.tmod a2 4))))), (4, ia a0), (16, ia a5), (19, ia a1), (103, .bool (((decide (a8 = 22)) == (decide (a0 > 512)))))] (by kernel_rfl) ?_
     refine EL.as' [(3, ia (IntKind.i64.wrap (62 + (IntKind.i64.wrap (Int.tmod a2 4))))), (4, ia a0), (16, ia a5), (19, ia a1), (103, .bool (false))] (by simp only [sv, (Bool.eq_false_iff.2 d6), Bool.not_true, Bool.not_false]) ?_
     refine EL.quick 16 [2] [(2, .bool (false))] (by kernel_rfl) ?_
     refine EL.done (by kernel_rfl) ?_
     refine EQ.code ?_
     refine EW.ret (by kernel_rfl) ?_
     obtain rfl := Option.some.inj H
     exact EQ.leave (.bool (false)) (by kernel_rfl) ⟨_, rfl, rfl, (hS.re [] [0, 0, 0, 0] rfl (sub_tail (sub_tail (sub_self))))⟩
    rw [if_neg d5] at H
    refine EL.keep [3, 4, 16, 19, 20, 96] [(3, ia (IntKind.i64.wrap (62 + (IntKind.i64.wrap (Int.tmod a2 4))))), (4, ia a0), (16, ia a5), (19, ia a1), (20, ia a8), (96, .bool (((decide (b0 = 22)) == (decide ((IntKind.i64.wrap (62 + (IntKind.i64.wrap (Int.tmod a2 4)))) > 64)))))] (by kernel_rfl) ?_
    refine EL.as' [(3, ia (IntKind.i64.wrap (62 + (IntKind.i64.wrap (Int.tmod a2 4))))), (4, ia a0), (16, ia a5), (19, ia a1), (20, ia a8), (96, .bool (false))] (by simp only [sv, (Bool.eq_false_iff.2 d5), Bool.not_true, Bool.not_false]) ?_
    refine EL.quick 23 [2] [(2, .bool (false))] (by kernel_rfl) ?_
    refine EL.done (by kernel_rfl) ?_
    refine EQ.code ?_
    refine EW.ret (by kernel_rfl) ?_
    obtain rfl := Option.some.inj H
    exact EQ.leave (.bool (false)) (by kernel_rfl) ⟨_, rfl, rfl, (hS.re [] [0, 0, 0, 0] rfl (sub_tail (sub_tail (sub_self))))⟩
   rw [if_neg d4] at H
   refine EL.keep [3, 4, 16, 17, 19, 20, 89] [(3, ia (IntKind.i64.wrap (62 + (IntKind.i64.wrap (Int.tmod a2 4))))), (4, ia a0), (16, ia a5), (17, ia b0), (19, ia a1), (20, ia a8), (89, .bool (((decide (b8 = 22)) == (decide (a0 > 512)))))] (by kernel_rfl) ?_
   refine EL.as' [(3, ia (IntKind.i64.wrap (62 + (IntKind.i64.wrap (Int.tmod a2 4))))), (4, ia a0), (16, ia a5), (17, ia b0), (19, ia a1), (20, ia a8), (89, .bool (false))] (by simp only [sv, (Bool.eq_false_iff.2 d4), Bool.not_true, Bool.not_false]) ?_
   refine EL.quick 30 [2] [(2, .bool (false))] (by kernel_rfl) ?_
   refine EL.done (by kernel_rfl) ?_
   refine EQ.code ?_
   refine EW.ret (by kernel_rfl) ?_
   obtain rfl := Option.some.inj H
   exact EQ.leave (.bool (false)) (by kernel_rfl) ⟨_, rfl, rfl, (hS.re [] [0, 0, 0, 0] rfl (sub_tail (sub_tail (sub_self))))⟩
  rw [if_neg d3] at H
  refine EL.keep [3, 4, 14, 16, 17, 19, 20, 82] [(3, ia (IntKind.i64.wrap (62 + (IntKind.i64.wrap (Int.tmod a2 4))))), (4, ia a0), (14, ia b8), (16, ia a5), (17, ia b0), (19, ia a1), (20, ia a8), (82, .bool (((decide (c2 = 22)) == (decide ((IntKind.i64.wrap (62 + (IntKind.i64.wrap (Int.tmod a2 4)))) > 64)))))] (by kernel_rfl) ?_
  refine EL.as' [(3, ia (IntKind.i64.wrap (62 + (IntKind.i64.wrap (Int.tmod a2 4))))), (4, ia a0), (14, ia b8), (16, ia a5), (17, ia b0), (19, ia a1), (20, ia a8), (82, .bool (false))] (by simp only [sv, (Bool.eq_false_iff.2 d3), Bool.not_true, Bool.not_false]) ?_
  refine EL.quick 37 [2] [(2, .bool (false))] (by kernel_rfl) ?_
  refine EL.done (by kernel_rfl) ?_
  refine EQ.code ?_
  refine EW.ret (by kernel_rfl) ?_
  obtain rfl := Option.some.inj H
  exact EQ.leave (.bool (false)) (by kernel_rfl) ⟨_, rfl, rfl, (hS.re [] [0, 0, 0, 0] rfl (sub_tail (sub_tail (sub_self))))⟩
 rw [if_neg e2] at H
 refine EW.sq (by kernel_rfl) ?_
 refine EW.rg (by kernel_rfl) ?_
 refine EL.quick 1 [2] [(2, .bool (false))] (by kernel_rfl) ?_
 refine EL.done (by kernel_rfl) ?_
 refine EQ.code ?_
 refine EW.ret (by kernel_rfl) ?_
 refine EQ.ret ?_
 obtain rfl := Option.some.inj H
 exact EQ.leave (.bool (false)) (by kernel_rfl) ⟨_, rfl, rfl, (hS.re [] [] rfl (sub_self))⟩

def confidantlaw7_ImageLimits.Pure : Prop := ∀ (a2 : Int), (Lit.int .u8 a2).wf = true → ∃ K, confidantlaw7_ImageLimits.f K a2 = some true

end Go.Proofs.YtiilloijkbabbaaDoor.G
