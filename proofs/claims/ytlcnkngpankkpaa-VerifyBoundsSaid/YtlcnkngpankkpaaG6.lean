import Derived.Test.YtlcnkngpankkpaaProg
import Derived.Test.YtlcnkngpankkpaaFwEq
import Derived.Test.YtlcnkngpankkpaaFwOpen
import Derived.Test.YtlcnkngpankkpaaG0
import Derived.Test.YtlcnkngpankkpaaG1
import Derived.Test.YtlcnkngpankkpaaG5
namespace Go.Proofs.Ytlcnkngpankkpaa.G
open Go Go.Fw Go.RowKit Go.Proofs
set_option linter.unusedVariables false
set_option linter.unusedSimpArgs false

/-! ### confidant/confidantlaw8.VerifyBounds: function 6 -/
def confidantlaw8_VerifyBounds.f (K : Nat) (a6 : Int) (a7 : Int) (a8 : Int) (a9 : Int) (a10 : Int) : Option Bool := b1 (confidantlaw8_known.f K) fun (t71 : Bool) => (if t71 = true then (lt ([10, 12, 15, 20, 24] : List Int) fun l77 => (lt ([4, 4, IntKind.i64.wrap (Int.tmod a9 10), IntKind.i64.wrap (Int.tmod a8 10), IntKind.i64.wrap (Int.tmod a10 10)] : List Int) fun l83 => (if 0 ≤ (IntKind.i64.wrap (Int.tmod a6 5)) then (if (IntKind.i64.wrap (Int.tmod a6 5)) < (l83.length : Int) then (if (IntKind.i64.wrap (Int.tmod a6 5)) < (l77.length : Int) then (lt ([(⟨1, 0⟩ : S32), (⟨1, 0⟩ : S32), (⟨(l77.getD (IntKind.i64.wrap (Int.tmod a6 5)).toNat 0), IntKind.i32.wrap (IntKind.i64.wrap (Int.tmod a7 12))⟩ : S32), (⟨26, 0⟩ : S32)] : List S32) fun l91 => (b2 (verify_Func.f K l91 (IntKind.i64.wrap (Int.tmod a8 10)) (IntKind.i64.wrap (Int.tmod a9 10)) (IntKind.i64.wrap (Int.tmod a10 10))) fun (t95 : Int) (t96 : Int) => (if (IntKind.i64.wrap (Int.tmod a7 12)) ≥ (l83.getD (IntKind.i64.wrap (Int.tmod a6 5)).toNat 0) then (if t96 = 24 then (some (decide (t95 = 2))) else (some false)) else (lt (fun (a0 : Bool) => (if a0 = true then (some (decide (t96 = 24))) else (some (decide (t96 = 0))))) fun a3 => (if (IntKind.i64.wrap (Int.tmod a6 5)) = 0 then (a3 (decide ((IntKind.i64.wrap (Int.tmod a7 12)) < 2))) else (a3 false)))))) else none) else none) else none))) else (some false))
set_option maxRecDepth 100000 in
theorem confidantlaw8_VerifyBounds.calls {K : Nat} {a6 : Int} {a7 : Int} {a8 : Int} {a9 : Int} {a10 : Int} {x63 : Bool} {B w : World} {os : List Ass} {rs : List Ro} (H : confidantlaw8_VerifyBounds.f K a6 a7 a8 a9 a10 = some x63) (hS : St B w (os) (rs)) :
  Calls Try.prog 6 [.int .u8 a6, .int .u8 a7, .int .u8 a8, .int .u8 a9, .int .u8 a10].toArray w (fun en w' => ∃ v, en = .returned v ∧ v = .bool (x63) ∧ St B w' (os) (rs)) := by
 unfold confidantlaw8_VerifyBounds.f at H
 refine calls_of_EW (args := [.int .u8 a6, .int .u8 a7, .int .u8 a8, .int .u8 a9, .int .u8 a10]) (c := Cd6) 84 Try.func6 (by kernel_rfl) (by kernel_rfl) (by kernel_rfl) ?_
 refine EW.seq (x := Cd6.l) (y := Cd6.r) (by kernel_rfl) ?_
 refine EW.region (id := 0) (ops := Cd6.l.ops) (by kernel_rfl) ?_
 refine EL.quick 1 [0, 1, 2, 3, 4] [(0, .int .u8 a6), (1, .int .u8 a7), (2, .int .u8 a8), (3, .int .u8 a9), (4, .int .u8 a10)] (by kernel_rfl) ?_
 refine EL.done (by kernel_rfl) ?_
 refine EQ.code ?_
 refine EW.seq (x := Cd6.r.l) (y := Cd6.r.r) (by kernel_rfl) ?_
 refine EW.seq (x := Cd6.r.l.l) (y := Cd6.r.l.r) (by kernel_rfl) ?_
 refine EW.region (id := 1) (ops := Cd6.r.l.l.ops) (by kernel_rfl) ?_
 obtain ⟨t71, hc72, H⟩ := b1_out H
 refine EL.of (EO.callD 12 [] _ 18 (by kernel_rfl) (by kernel_rfl) (by kernel_rfl) (confidantlaw8_known.calls hc72 hS) ?_)
 rintro v w ⟨rfl, hS⟩
 refine EL.quick 1 [0, 1, 2, 3, 4, 19] [(0, .int .u8 a6), (1, .int .u8 a7), (2, .int .u8 a8), (3, .int .u8 a9), (4, .int .u8 a10), (19, .bool (!(t71)))] (by kernel_rfl) ?_
 refine EL.done (by kernel_rfl) ?_
 refine EQ.code ?_
 refine EW.condQ (b := !(t71)) (o := (.tmp 19)) (x := Cd6.r.l.r.l) (y := Cd6.r.l.r.r) (t71 = true) (false) (by kernel_rfl) (by kernel_rfl) ⟨fun h => (by rw [h] <;> rfl), fun h => (by rw [Bool.eq_false_iff.2 h] <;> rfl)⟩ (fun h73 => ?_) (fun h73 => ?_)
 ·rw [if_pos h73] at H
  refine EW.skip (by kernel_rfl) ?_
  refine EQ.code ?_
  refine EW.seq (x := Cd6.r.r.l) (y := Cd6.r.r.r) (by kernel_rfl) ?_
  refine EW.region (id := 3) (ops := Cd6.r.r.l.ops) (by kernel_rfl) ?_
  obtain ⟨l77, hl77, H⟩ := lt_out H
  refine EL.of (EO.lit hS (Kd.int .i64) 3 39 5 #[(0, .int .i64 10), (1, .int .i64 12), (2, .int .i64 15), (3, .int .i64 20), (4, .int .i64 24)] [.int .i64 10, .int .i64 12, .int .i64 15, .int .i64 20, .int .i64 24] l77 20 (by kernel_rfl) (by kernel_rfl) (by kernel_rfl) (fun _ => (by kernel_rfl)) (by rw [hl77]; rfl) (by kernel_rfl) (fun w G hr => (by rw [hl77]; exact ⟨[.int .i64 10], [.int .i64 12, .int .i64 15, .int .i64 20, .int .i64 24], rfl, rfl, ⟨[.int .i64 12], [.int .i64 15, .int .i64 20, .int .i64 24], rfl, rfl, ⟨[.int .i64 15], [.int .i64 20, .int .i64 24], rfl, rfl, ⟨[.int .i64 20], [.int .i64 24], rfl, rfl, ⟨[.int .i64 24], [], rfl, rfl, rfl⟩⟩⟩⟩⟩)) ?_)
  intro g76 w hS
  refine EL.quick 1 [0, 1, 2, 3, 4, 11] [(0, .int .u8 a6), (1, .int .u8 a7), (2, .int .u8 a8), (3, .int .u8 a9), (4, .int .u8 a10), (11, .slice (some ⟨g76, 0, none⟩) l77.length 5)] (by kernel_rfl) ?_
  refine EL.done (by kernel_rfl) ?_
  refine EQ.code ?_
  refine EW.seq (x := Cd6.r.r.r.l) (y := Cd6.r.r.r.r) (by kernel_rfl) ?_
  refine EW.region (id := 4) (ops := Cd6.r.r.r.l.ops) (by kernel_rfl) ?_
  refine EL.quick 4 [1, 2, 3, 4, 11, 12] [(1, .int .u8 a7), (2, .int .u8 a8), (3, .int .u8 a9), (4, .int .u8 a10), (11, .slice (some ⟨g76, 0, none⟩) l77.length 5), (12, .int .i64 (IntKind.i64.wrap (Int.tmod a6 5)))] (by kernel_rfl) ?_
  refine EL.done (by kernel_rfl) ?_
  refine EQ.code ?_
  refine EW.seq (x := Cd6.r.r.r.r.l) (y := Cd6.r.r.r.r.r) (by kernel_rfl) ?_
  refine EW.region (id := 5) (ops := Cd6.r.r.r.r.l.ops) (by kernel_rfl) ?_
  refine EL.quick 4 [2, 3, 4, 11, 12, 13] [(2, .int .u8 a8), (3, .int .u8 a9), (4, .int .u8 a10), (11, .slice (some ⟨g76, 0, none⟩) l77.length 5), (12, .int .i64 (IntKind.i64.wrap (Int.tmod a6 5))), (13, .int .i64 (IntKind.i64.wrap (Int.tmod a7 12)))] (by kernel_rfl) ?_
  refine EL.done (by kernel_rfl) ?_
  refine EQ.code ?_
  refine EW.seq (x := Cd6.r.r.r.r.r.l) (y := Cd6.r.r.r.r.r.r) (by kernel_rfl) ?_
  refine EW.region (id := 6) (ops := Cd6.r.r.r.r.r.l.ops) (by kernel_rfl) ?_
  refine EL.quick 9 [2, 3, 4, 11, 12, 13, 29, 32, 35] [(2, .int .u8 a8), (3, .int .u8 a9), (4, .int .u8 a10), (11, .slice (some ⟨g76, 0, none⟩) l77.length 5), (12, .int .i64 (IntKind.i64.wrap (Int.tmod a6 5))), (13, .int .i64 (IntKind.i64.wrap (Int.tmod a7 12))), (29, .int .i64 (IntKind.i64.wrap (Int.tmod a9 10))), (32, .int .i64 (IntKind.i64.wrap (Int.tmod a8 10))), (35, .int .i64 (IntKind.i64.wrap (Int.tmod a10 10)))] (by kernel_rfl) ?_
  obtain ⟨l83, hl83, H⟩ := lt_out H
  refine EL.of (EO.lit hS (Kd.int .i64) 3 39 5 #[(0, .int .i64 4), (1, .int .i64 4), (2, .int .i64 (IntKind.i64.wrap (Int.tmod a9 10))), (3, .int .i64 (IntKind.i64.wrap (Int.tmod a8 10))), (4, .int .i64 (IntKind.i64.wrap (Int.tmod a10 10)))] [.int .i64 4, .int .i64 4, .int .i64 (IntKind.i64.wrap (Int.tmod a9 10)), .int .i64 (IntKind.i64.wrap (Int.tmod a8 10)), .int .i64 (IntKind.i64.wrap (Int.tmod a10 10))] l83 36 (by kernel_rfl) (by kernel_rfl) (by kernel_rfl) (fun _ => (by kernel_rfl)) (by rw [hl83]; rfl) (by kernel_rfl) (fun w G hr => (by rw [hl83]; exact ⟨[.int .i64 4], [.int .i64 4, .int .i64 (IntKind.i64.wrap (Int.tmod a9 10)), .int .i64 (IntKind.i64.wrap (Int.tmod a8 10)), .int .i64 (IntKind.i64.wrap (Int.tmod a10 10))], rfl, rfl, ⟨[.int .i64 4], [.int .i64 (IntKind.i64.wrap (Int.tmod a9 10)), .int .i64 (IntKind.i64.wrap (Int.tmod a8 10)), .int .i64 (IntKind.i64.wrap (Int.tmod a10 10))], rfl, rfl, ⟨[.int .i64 (IntKind.i64.wrap (Int.tmod a9 10))], [.int .i64 (IntKind.i64.wrap (Int.tmod a8 10)), .int .i64 (IntKind.i64.wrap (Int.tmod a10 10))], rfl, rfl, ⟨[.int .i64 (IntKind.i64.wrap (Int.tmod a8 10))], [.int .i64 (IntKind.i64.wrap (Int.tmod a10 10))], rfl, rfl, ⟨[.int .i64 (IntKind.i64.wrap (Int.tmod a10 10))], [], rfl, rfl, rfl⟩⟩⟩⟩⟩)) ?_)
  intro g82 w hS
  refine EL.quick 1 [2, 3, 4, 11, 12, 13, 36, 37] [(2, .int .u8 a8), (3, .int .u8 a9), (4, .int .u8 a10), (11, .slice (some ⟨g76, 0, none⟩) l77.length 5), (12, .int .i64 (IntKind.i64.wrap (Int.tmod a6 5))), (13, .int .i64 (IntKind.i64.wrap (Int.tmod a7 12))), (36, .slice (some ⟨g82, 0, none⟩) l83.length 5), (37, .int .i64 (IntKind.i64.wrap (Int.tmod a6 5)))] (by kernel_rfl) ?_
  obtain ⟨h84, H⟩ := ite_in H
  obtain ⟨h85, H⟩ := ite_in H
  refine EL.of (EO.Y (YO.idx 39 1 ⟨g82, 0, none⟩ l83.length 5 .i64 (IntKind.i64.wrap (Int.tmod a6 5)) 38 (by kernel_rfl) (by kernel_rfl) (by kernel_rfl) (by kernel_rfl) h84 h85) ?_)
  refine EL.of (EO.Y (YO.loadEl hS (Kd.int .i64) ⟨g82, 0, none⟩ 5 l83 (Rd.own 0 3 rfl) 0 (encI .i64) encI_of (IntKind.i64.wrap (Int.tmod a6 5)) h84 h85 3 1 0 1 rfl (.int .i64 (l83.getD (IntKind.i64.wrap (Int.tmod a6 5)).toNat 0)) 39 (by kernel_rfl) (by kernel_rfl) (by kernel_rfl) (by kernel_rfl)) ?_)
  refine EL.quick 1 [2, 3, 4, 11, 12, 13, 14] [(2, .int .u8 a8), (3, .int .u8 a9), (4, .int .u8 a10), (11, .slice (some ⟨g76, 0, none⟩) l77.length 5), (12, .int .i64 (IntKind.i64.wrap (Int.tmod a6 5))), (13, .int .i64 (IntKind.i64.wrap (Int.tmod a7 12))), (14, .int .i64 (l83.getD (IntKind.i64.wrap (Int.tmod a6 5)).toNat 0))] (by kernel_rfl) ?_
  refine EL.done (by kernel_rfl) ?_
  refine EQ.code ?_
  refine EW.seq (x := Cd6.r.r.r.r.r.r.l) (y := Cd6.r.r.r.r.r.r.r) (by kernel_rfl) ?_
  refine EW.region (id := 7) (ops := Cd6.r.r.r.r.r.r.l.ops) (by kernel_rfl) ?_
  refine EL.quick 4 [2, 3, 4, 12, 13, 14, 40, 41, 42, 43] [(2, .int .u8 a8), (3, .int .u8 a9), (4, .int .u8 a10), (12, .int .i64 (IntKind.i64.wrap (Int.tmod a6 5))), (13, .int .i64 (IntKind.i64.wrap (Int.tmod a7 12))), (14, .int .i64 (l83.getD (IntKind.i64.wrap (Int.tmod a6 5)).toNat 0)), (40, .agg #[.int .i64 1, .int .i32 0]), (41, .agg #[.int .i64 1, .int .i32 0]), (42, .slice (some ⟨g76, 0, none⟩) l77.length 5), (43, .int .i64 (IntKind.i64.wrap (Int.tmod a6 5)))] (by kernel_rfl) ?_
  obtain ⟨h89, H⟩ := ite_in H
  refine EL.of (EO.Y (YO.idx 39 1 ⟨g76, 0, none⟩ l77.length 5 .i64 (IntKind.i64.wrap (Int.tmod a6 5)) 44 (by kernel_rfl) (by kernel_rfl) (by kernel_rfl) (by kernel_rfl) h84 h89) ?_)
  refine EL.of (EO.Y (YO.loadEl hS (Kd.int .i64) ⟨g76, 0, none⟩ 5 l77 (Rd.own 1 3 rfl) 0 (encI .i64) encI_of (IntKind.i64.wrap (Int.tmod a6 5)) h84 h89 3 1 0 1 rfl (.int .i64 (l77.getD (IntKind.i64.wrap (Int.tmod a6 5)).toNat 0)) 45 (by kernel_rfl) (by kernel_rfl) (by kernel_rfl) (by kernel_rfl)) ?_)
  refine EL.quick 4 [2, 3, 4, 12, 13, 14, 40, 41, 48, 49] [(2, .int .u8 a8), (3, .int .u8 a9), (4, .int .u8 a10), (12, .int .i64 (IntKind.i64.wrap (Int.tmod a6 5))), (13, .int .i64 (IntKind.i64.wrap (Int.tmod a7 12))), (14, .int .i64 (l83.getD (IntKind.i64.wrap (Int.tmod a6 5)).toNat 0)), (40, .agg #[.int .i64 1, .int .i32 0]), (41, .agg #[.int .i64 1, .int .i32 0]), (48, .agg #[.int .i64 (l77.getD (IntKind.i64.wrap (Int.tmod a6 5)).toNat 0), .int .i32 (IntKind.i32.wrap (IntKind.i64.wrap (Int.tmod a7 12)))]), (49, .agg #[.int .i64 26, .int .i32 0])] (by kernel_rfl) ?_
  obtain ⟨l91, hl91, H⟩ := lt_out H
  refine EL.of (EO.lit hS kS32 32 29 4 #[(0, .agg #[.int .i64 1, .int .i32 0]), (1, .agg #[.int .i64 1, .int .i32 0]), (2, .agg #[.int .i64 (l77.getD (IntKind.i64.wrap (Int.tmod a6 5)).toNat 0), .int .i32 (IntKind.i32.wrap (IntKind.i64.wrap (Int.tmod a7 12)))]), (3, .agg #[.int .i64 26, .int .i32 0])] [.int .i64 1, .int .i32 0, .int .i64 1, .int .i32 0, .int .i64 (l77.getD (IntKind.i64.wrap (Int.tmod a6 5)).toNat 0), .int .i32 (IntKind.i32.wrap (IntKind.i64.wrap (Int.tmod a7 12))), .int .i64 26, .int .i32 0] l91 50 (by kernel_rfl) (by kernel_rfl) (by kernel_rfl) (fun _ => (by kernel_rfl)) (by rw [hl91]; rfl) (by kernel_rfl) (fun w G hr => (by rw [hl91]; exact ⟨[.int .i64 1, .int .i32 0], [.int .i64 1, .int .i32 0, .int .i64 (l77.getD (IntKind.i64.wrap (Int.tmod a6 5)).toNat 0), .int .i32 (IntKind.i32.wrap (IntKind.i64.wrap (Int.tmod a7 12))), .int .i64 26, .int .i32 0], rfl, ⟨[.int .i64 1], [.int .i32 0], rfl, rfl, ⟨[.int .i32 0], [], rfl, rfl, rfl⟩⟩, ⟨[.int .i64 1, .int .i32 0], [.int .i64 (l77.getD (IntKind.i64.wrap (Int.tmod a6 5)).toNat 0), .int .i32 (IntKind.i32.wrap (IntKind.i64.wrap (Int.tmod a7 12))), .int .i64 26, .int .i32 0], rfl, ⟨[.int .i64 1], [.int .i32 0], rfl, rfl, ⟨[.int .i32 0], [], rfl, rfl, rfl⟩⟩, ⟨[.int .i64 (l77.getD (IntKind.i64.wrap (Int.tmod a6 5)).toNat 0), .int .i32 (IntKind.i32.wrap (IntKind.i64.wrap (Int.tmod a7 12)))], [.int .i64 26, .int .i32 0], rfl, ⟨[.int .i64 (l77.getD (IntKind.i64.wrap (Int.tmod a6 5)).toNat 0)], [.int .i32 (IntKind.i32.wrap (IntKind.i64.wrap (Int.tmod a7 12)))], rfl, rfl, ⟨[.int .i32 (IntKind.i32.wrap (IntKind.i64.wrap (Int.tmod a7 12)))], [], rfl, rfl, rfl⟩⟩, ⟨[.int .i64 26, .int .i32 0], [], rfl, ⟨[.int .i64 26], [.int .i32 0], rfl, rfl, ⟨[.int .i32 0], [], rfl, rfl, rfl⟩⟩, rfl⟩⟩⟩⟩)) ?_)
  intro g90 w hS
  refine EL.quick 1 [2, 3, 4, 12, 13, 14, 15] [(2, .int .u8 a8), (3, .int .u8 a9), (4, .int .u8 a10), (12, .int .i64 (IntKind.i64.wrap (Int.tmod a6 5))), (13, .int .i64 (IntKind.i64.wrap (Int.tmod a7 12))), (14, .int .i64 (l83.getD (IntKind.i64.wrap (Int.tmod a6 5)).toNat 0)), (15, .slice (some ⟨g90, 0, none⟩) l91.length 4)] (by kernel_rfl) ?_
  refine EL.done (by kernel_rfl) ?_
  refine EQ.code ?_
  refine EW.seq (x := Cd6.r.r.r.r.r.r.r.l) (y := Cd6.r.r.r.r.r.r.r.r) (by kernel_rfl) ?_
  refine EW.region (id := 8) (ops := Cd6.r.r.r.r.r.r.r.l.ops) (by kernel_rfl) ?_
  refine EL.quick 10 [12, 13, 14, 52, 55, 58, 61] [(12, .int .i64 (IntKind.i64.wrap (Int.tmod a6 5))), (13, .int .i64 (IntKind.i64.wrap (Int.tmod a7 12))), (14, .int .i64 (l83.getD (IntKind.i64.wrap (Int.tmod a6 5)).toNat 0)), (52, .slice (some ⟨g90, 0, none⟩) l91.length 4), (55, .int .i64 (IntKind.i64.wrap (Int.tmod a8 10))), (58, .int .i64 (IntKind.i64.wrap (Int.tmod a9 10))), (61, .int .i64 (IntKind.i64.wrap (Int.tmod a10 10)))] (by kernel_rfl) ?_
  have hS := St.fr hS 0 rfl
  have hS : St B _ (Ass.own 3 (Kd.int .i64) (some ⟨g82, 0, none⟩) 5 l83 :: Ass.own 3 (Kd.int .i64) (some ⟨g76, 0, none⟩) 5 l77 :: os) (Ro.sl kS32 (some ⟨g90, 0, none⟩) 4 l91 :: Ro.sl kS32 (some ⟨g90, 0, none⟩) 4 l91 :: rs) := hS.re [] [] rfl (sub_cons 0 rfl sub_self)
  obtain ⟨t95, t96, hc97, H⟩ := b2_out H
  refine EL.of (EO.callD 16 [.slice (some ⟨g90, 0, none⟩) l91.length 4, .int .i64 (IntKind.i64.wrap (Int.tmod a8 10)), .int .i64 (IntKind.i64.wrap (Int.tmod a9 10)), .int .i64 (IntKind.i64.wrap (Int.tmod a10 10))] _ 62 (by kernel_rfl) (by kernel_rfl) (by kernel_rfl) (verify_Func.calls hc97 hS) ?_)
  rintro v w ⟨rfl, hS⟩
  refine EL.quick 5 [12, 13, 14, 16, 17] [(12, .int .i64 (IntKind.i64.wrap (Int.tmod a6 5))), (13, .int .i64 (IntKind.i64.wrap (Int.tmod a7 12))), (14, .int .i64 (l83.getD (IntKind.i64.wrap (Int.tmod a6 5)).toNat 0)), (16, .int .i64 t95), (17, .int .i64 t96)] (by kernel_rfl) ?_
  refine EL.done (by kernel_rfl) ?_
  refine EQ.code ?_
  refine EW.seq (x := Cd6.r.r.r.r.r.r.r.r.l) (y := Cd6.r.r.r.r.r.r.r.r.r) (by kernel_rfl) ?_
  refine EW.seq (x := Cd6.r.r.r.r.r.r.r.r.l.l) (y := Cd6.r.r.r.r.r.r.r.r.l.r) (by kernel_rfl) ?_
  refine EW.region (id := 9) (ops := Cd6.r.r.r.r.r.r.r.r.l.l.ops) (by kernel_rfl) ?_
  refine EL.quick 3 [12, 13, 16, 17, 67] [(12, .int .i64 (IntKind.i64.wrap (Int.tmod a6 5))), (13, .int .i64 (IntKind.i64.wrap (Int.tmod a7 12))), (16, .int .i64 t95), (17, .int .i64 t96), (67, .bool (decide ((IntKind.i64.wrap (Int.tmod a7 12)) ≥ (l83.getD (IntKind.i64.wrap (Int.tmod a6 5)).toNat 0))))] (by kernel_rfl) ?_
  refine EL.done (by kernel_rfl) ?_
  refine EQ.code ?_
  refine EW.condP (o := (.tmp 67)) (x := Cd6.r.r.r.r.r.r.r.r.l.r.l) (y := Cd6.r.r.r.r.r.r.r.r.l.r.r) ((IntKind.i64.wrap (Int.tmod a7 12)) ≥ (l83.getD (IntKind.i64.wrap (Int.tmod a6 5)).toNat 0)) (by kernel_rfl) (by kernel_rfl) (fun a4 => ?_) (fun a4 => ?_)
  ·rw [if_pos a4] at H
   refine EW.seq (x := Cd6.r.r.r.r.r.r.r.r.l.r.l.l) (y := Cd6.r.r.r.r.r.r.r.r.l.r.l.r) (by kernel_rfl) ?_
   refine EW.region (id := 10) (ops := Cd6.r.r.r.r.r.r.r.r.l.r.l.l.ops) (by kernel_rfl) ?_
   refine EL.quick 3 [16, 70] [(16, .int .i64 t95), (70, .bool (decide (t96 = 24)))] (by kernel_rfl) ?_
   by_cases a1 : t96 = 24
   ·rw [if_pos a1] at H
    refine EL.keep [16, 70] [(16, .int .i64 t95), (70, .bool (decide (t96 = 24)))] (by kernel_rfl) ?_
    refine EL.as' [(16, .int .i64 t95), (70, .bool (true))] (by simp only [dec_t a1, Bool.not_true, Bool.not_false]) ?_
    refine EL.quick 4 [10] [(10, .bool (decide (t95 = 2)))] (by kernel_rfl) ?_
    refine EL.done (by kernel_rfl) ?_
    refine EQ.code ?_
    refine EW.ret (by kernel_rfl) ?_
    refine EQ.ret ?_
    obtain rfl := Option.some.inj H
    exact EQ.leave (.bool (decide (t95 = 2))) (by kernel_rfl) ⟨_, rfl, rfl, (hS.re [] [0, 0] rfl (sub_tail (sub_tail (sub_self))))⟩
   ·rw [if_neg a1] at H
    refine EL.keep [16, 70] [(16, .int .i64 t95), (70, .bool (decide (t96 = 24)))] (by kernel_rfl) ?_
    refine EL.as' [(16, .int .i64 t95), (70, .bool (false))] (by simp only [dec_f a1, Bool.not_true, Bool.not_false]) ?_
    refine EL.quick 4 [10] [(10, .bool (false))] (by kernel_rfl) ?_
    refine EL.done (by kernel_rfl) ?_
    refine EQ.code ?_
    refine EW.ret (by kernel_rfl) ?_
    refine EQ.ret ?_
    obtain rfl := Option.some.inj H
    exact EQ.leave (.bool (false)) (by kernel_rfl) ⟨_, rfl, rfl, (hS.re [] [0, 0] rfl (sub_tail (sub_tail (sub_self))))⟩
  ·rw [if_neg a4] at H
   refine EW.skip (by kernel_rfl) ?_
   refine EQ.code ?_
   refine EW.seq (x := Cd6.r.r.r.r.r.r.r.r.r.l) (y := Cd6.r.r.r.r.r.r.r.r.r.r) (by kernel_rfl) ?_
   obtain ⟨a3, b0, H⟩ := lt_out H
   refine EW.cut (x := Cd6.r.r.r.r.r.r.r.r.r.l.l) (y := Cd6.r.r.r.r.r.r.r.r.r.l.r) (fun a w => ∃ a0 : Bool, Sat 84 [(17, .int .i64 t96), (79, .bool (a0))] a ∧ St B w (Ass.own 3 (Kd.int .i64) (some ⟨g82, 0, none⟩) 5 l83 :: Ass.own 3 (Kd.int .i64) (some ⟨g76, 0, none⟩) 5 l77 :: os) (Ro.sl kS32 (some ⟨g90, 0, none⟩) 4 l91 :: Ro.sl kS32 (some ⟨g90, 0, none⟩) 4 l91 :: rs) ∧ a3 a0 = some x63) (by kernel_rfl) ?_ (fun a w hI => ?_)
   ·refine EW.region (id := 11) (ops := Cd6.r.r.r.r.r.r.r.r.r.l.l.ops) (by kernel_rfl) ?_
    refine EL.quick 3 [13, 17, 76] [(13, .int .i64 (IntKind.i64.wrap (Int.tmod a7 12))), (17, .int .i64 t96), (76, .bool (decide ((IntKind.i64.wrap (Int.tmod a6 5)) = 0)))] (by kernel_rfl) ?_
    by_cases a2 : (IntKind.i64.wrap (Int.tmod a6 5)) = 0
    ·rw [if_pos a2] at H
     refine EL.keep [13, 17, 76] [(13, .int .i64 (IntKind.i64.wrap (Int.tmod a7 12))), (17, .int .i64 t96), (76, .bool (decide ((IntKind.i64.wrap (Int.tmod a6 5)) = 0)))] (by kernel_rfl) ?_
     refine EL.as' [(13, .int .i64 (IntKind.i64.wrap (Int.tmod a7 12))), (17, .int .i64 t96), (76, .bool (true))] (by simp only [dec_t a2, Bool.not_true, Bool.not_false]) ?_
     refine EL.quick 3 [17, 79] [(17, .int .i64 t96), (79, .bool (decide ((IntKind.i64.wrap (Int.tmod a7 12)) < 2)))] (by kernel_rfl) ?_
     refine EL.done (by kernel_rfl) ?_
     refine EQ.to ?_
     refine EQ.keep [17, 79] [(17, .int .i64 t96), (79, .bool (decide ((IntKind.i64.wrap (Int.tmod a7 12)) < 2)))] (by kernel_rfl) ?_
     exact fun a ha => ⟨decide ((IntKind.i64.wrap (Int.tmod a7 12)) < 2), ha, (hS.re [1, 1] [] rfl (sub_cons 0 rfl (sub_cons 0 rfl (sub_tail (sub_tail (sub_self)))))), H⟩
    ·rw [if_neg a2] at H
     refine EL.keep [13, 17, 76] [(13, .int .i64 (IntKind.i64.wrap (Int.tmod a7 12))), (17, .int .i64 t96), (76, .bool (decide ((IntKind.i64.wrap (Int.tmod a6 5)) = 0)))] (by kernel_rfl) ?_
     refine EL.as' [(13, .int .i64 (IntKind.i64.wrap (Int.tmod a7 12))), (17, .int .i64 t96), (76, .bool (false))] (by simp only [dec_f a2, Bool.not_true, Bool.not_false]) ?_
     refine EL.quick 3 [17, 79] [(17, .int .i64 t96), (79, .bool (false))] (by kernel_rfl) ?_
     refine EL.done (by kernel_rfl) ?_
     refine EQ.to ?_
     refine EQ.keep [17, 79] [(17, .int .i64 t96), (79, .bool (false))] (by kernel_rfl) ?_
     exact fun a ha => ⟨false, ha, (hS.re [1, 1] [] rfl (sub_cons 0 rfl (sub_cons 0 rfl (sub_tail (sub_tail (sub_self)))))), H⟩
   ·obtain ⟨a0, ha, hS, H⟩ := hI
    rw [b0] at H
    (try dsimp only at H)
    refine EW.at ?_ a ha
    clear ha a
    refine EW.condP' (o := (.tmp 79)) (x := Cd6.r.r.r.r.r.r.r.r.r.l.r.l) (y := Cd6.r.r.r.r.r.r.r.r.r.l.r.r) (a0) (by kernel_rfl) (by kernel_rfl) (fun a5 => ?_) (fun a5 => ?_)
    ·rw [if_pos a5] at H
     refine EW.seq (x := Cd6.r.r.r.r.r.r.r.r.r.l.r.l.l) (y := Cd6.r.r.r.r.r.r.r.r.r.l.r.l.r) (by kernel_rfl) ?_
     refine EW.region (id := 12) (ops := Cd6.r.r.r.r.r.r.r.r.r.l.r.l.l.ops) (by kernel_rfl) ?_
     refine EL.quick 3 [10] [(10, .bool (decide (t96 = 24)))] (by kernel_rfl) ?_
     refine EL.done (by kernel_rfl) ?_
     refine EQ.code ?_
     refine EW.ret (by kernel_rfl) ?_
     refine EQ.ret ?_
     obtain rfl := Option.some.inj H
     exact EQ.leave (.bool (decide (t96 = 24))) (by kernel_rfl) ⟨_, rfl, rfl, (hS.re [] [0, 0] rfl (sub_tail (sub_tail (sub_self))))⟩
    ·rw [if_neg a5] at H
     refine EW.skip (by kernel_rfl) ?_
     refine EQ.code ?_
     refine EW.seq (x := Cd6.r.r.r.r.r.r.r.r.r.r.l) (y := Cd6.r.r.r.r.r.r.r.r.r.r.r) (by kernel_rfl) ?_
     refine EW.region (id := 13) (ops := Cd6.r.r.r.r.r.r.r.r.r.r.l.ops) (by kernel_rfl) ?_
     refine EL.quick 3 [10] [(10, .bool (decide (t96 = 0)))] (by kernel_rfl) ?_
     refine EL.done (by kernel_rfl) ?_
     refine EQ.code ?_
     refine EW.ret (by kernel_rfl) ?_
     obtain rfl := Option.some.inj H
     exact EQ.leave (.bool (decide (t96 = 0))) (by kernel_rfl) ⟨_, rfl, rfl, (hS.re [] [0, 0] rfl (sub_tail (sub_tail (sub_self))))⟩
 ·rw [if_neg h73] at H
  refine EW.seq (x := Cd6.r.l.r.l.l) (y := Cd6.r.l.r.l.r) (by kernel_rfl) ?_
  refine EW.region (id := 2) (ops := Cd6.r.l.r.l.l.ops) (by kernel_rfl) ?_
  refine EL.quick 1 [10] [(10, .bool (false))] (by kernel_rfl) ?_
  refine EL.done (by kernel_rfl) ?_
  refine EQ.code ?_
  refine EW.ret (by kernel_rfl) ?_
  refine EQ.ret ?_
  obtain rfl := Option.some.inj H
  exact EQ.leave (.bool (false)) (by kernel_rfl) ⟨_, rfl, rfl, (hS.re [] [] rfl (sub_self))⟩

def confidantlaw8_VerifyBounds.Pure : Prop := ∀ (a6 : Int) (a7 : Int) (a8 : Int) (a9 : Int) (a10 : Int), (Lit.int .u8 a6).wf = true → (Lit.int .u8 a7).wf = true → (Lit.int .u8 a8).wf = true → (Lit.int .u8 a9).wf = true → (Lit.int .u8 a10).wf = true → ∃ K, confidantlaw8_VerifyBounds.f K a6 a7 a8 a9 a10 = some true

end Go.Proofs.Ytlcnkngpankkpaa.G
