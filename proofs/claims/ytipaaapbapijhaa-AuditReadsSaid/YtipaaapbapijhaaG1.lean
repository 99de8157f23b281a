import Derived.Test.YtipaaapbapijhaaProg
import Derived.Test.YtipaaapbapijhaaFwEq
import Derived.Test.YtipaaapbapijhaaFwOpen
import Derived.Test.YtipaaapbapijhaaG0
namespace Go.Proofs.Ytipaaapbapijhaa.G
open Go Go.Fw Go.RowKit Go.Proofs
set_option linter.unusedVariables false
set_option linter.unusedSimpArgs false

/-! ### confidant/confidantlaw22.known: function 27 -/
def confidantlaw22_known.f (K : Nat)  : Option Bool := b1 (audit_New.f K) fun (e2 : List S69) => (lt ([(⟨0, 0, 1, (-1), 3, 0⟩ : S69), (⟨0, 0, 2, 0, 3, 0⟩ : S69)] : List S69) fun a6 => (b1 (audit_Log_Add.f K e2 a6) fun (f6 : List S69) => (b2 (audit_Log_All.f K f6) fun (a9 : List S69) (b0 : List S69) => (b1 (audit_Put.f K b0) fun (b7 : List Int) => (b2 (audit_Read.f K b7) fun (a0 : List S69) (a7 : Int) => (b2 (audit_Read.f K ([] : List Int)) fun (c9 : List S69) (a2 : Int) => (b2 (audit_Log_All_16.f K a9) fun (c1 : List S69) (c2 : List S69) => (if (c2.length : Int) = 2 then (lt ([2] : List Int) fun c0 => (b2 (audit_Log_Of.f K c1 c0) fun (d0 : List S69) (c3 : List S69) => (if (c3.length : Int) = 1 then (if a7 = 0 then (if (a0.length : Int) = 2 then (if (0 : Int) < (a0.length : Int) then (if ((a0.getD (0 : Int).toNat zS69).f3) = (-1) then (if a2 = 20 then (b1 (audit_Right.f K a0) fun (c8 : Bool) => (if c8 = true then (lt ([(⟨1, 0, 0, 0, 0, 0⟩ : S69)] : List S69) fun c7 => (b1 (audit_Right.f K c7) fun (e3 : Bool) => (some (!(e3))))) else (some false))) else (some false)) else (some false)) else none) else (some false)) else (some false)) else (some false)))) else (some false)))))))))
set_option maxRecDepth 100000 in
theorem confidantlaw22_known.calls {K : Nat} {f7 : Bool} {B w : World} {os : List Ass} {rs : List Ro} (H : confidantlaw22_known.f K = some f7) (hS : St B w (os) (rs)) :
  Calls Try.prog 27 [].toArray w (fun en w' => ∃ v, en = .returned v ∧ v = .bool (f7) ∧ St B w' (os) (rs)) := by
 unfold confidantlaw22_known.f at H
 refine calls_of_EW (args := []) (c := Cd27) 66 Try.func27 (by kernel_rfl) (by kernel_rfl) (by kernel_rfl) ?_
 refine EW.seq (x := Cd27.l) (y := Cd27.r) (by kernel_rfl) ?_
 refine EW.region (id := 0) (ops := Cd27.l.ops) (by kernel_rfl) ?_
 refine EL.quick 1 [] [] (by kernel_rfl) ?_
 refine EL.done (by kernel_rfl) ?_
 refine EQ.code ?_
 refine EW.seq (x := Cd27.r.l) (y := Cd27.r.r) (by kernel_rfl) ?_
 refine EW.region (id := 1) (ops := Cd27.r.l.ops) (by kernel_rfl) ?_
 obtain ⟨e2, f8, H⟩ := b1_out H
 refine EL.of (EO.callD 29 [] _ 6 (by kernel_rfl) (by kernel_rfl) (by kernel_rfl) (audit_New.calls f8 hS) ?_)
 rintro v w ⟨a4, e8, f0, rfl, hS⟩
 refine EL.quick 1 [1] [(1, .pointer (some ⟨a4, 0, none⟩))] (by kernel_rfl) ?_
 refine EL.done (by kernel_rfl) ?_
 refine EQ.code ?_
 refine EW.seq (x := Cd27.r.r.l) (y := Cd27.r.r.r) (by kernel_rfl) ?_
 refine EW.seq (x := Cd27.r.r.l.l) (y := Cd27.r.r.l.r) (by kernel_rfl) ?_
 refine EW.region (id := 2) (ops := Cd27.r.r.l.l.ops) (by kernel_rfl) ?_
 refine EL.quick 2 [1, 8] [(1, .pointer (some ⟨a4, 0, none⟩)), (8, .bool (false))] (by kernel_rfl) ?_
 refine EL.done (by kernel_rfl) ?_
 refine EQ.code ?_
 refine EW.condF (o := (.tmp 8)) (x := Cd27.r.r.l.r.l) (y := Cd27.r.r.l.r.r) (by kernel_rfl) (by kernel_rfl) ?_
 refine EW.skip (by kernel_rfl) ?_
 refine EQ.code ?_
 refine EW.seq (x := Cd27.r.r.r.l) (y := Cd27.r.r.r.r) (by kernel_rfl) ?_
 refine EW.region (id := 4) (ops := Cd27.r.r.r.l.ops) (by kernel_rfl) ?_
 refine EL.quick 3 [1, 9, 10, 11] [(1, .pointer (some ⟨a4, 0, none⟩)), (9, .pointer (some ⟨a4, 0, none⟩)), (10, .agg #[.int .i64 0, .int .i64 0, .int .i64 1, .int .i32 (-1), .int .i64 3, .int .i32 0]), (11, .agg #[.int .i64 0, .int .i64 0, .int .i64 2, .int .i32 0, .int .i64 3, .int .i32 0])] (by kernel_rfl) ?_
 obtain ⟨a6, f2, H⟩ := lt_out H
 refine EL.of (EO.lit hS kS69 69 64 2 #[(0, .agg #[.int .i64 0, .int .i64 0, .int .i64 1, .int .i32 (-1), .int .i64 3, .int .i32 0]), (1, .agg #[.int .i64 0, .int .i64 0, .int .i64 2, .int .i32 0, .int .i64 3, .int .i32 0])] [.int .i64 0, .int .i64 0, .int .i64 1, .int .i32 (-1), .int .i64 3, .int .i32 0, .int .i64 0, .int .i64 0, .int .i64 2, .int .i32 0, .int .i64 3, .int .i32 0] a6 12 (by kernel_rfl) (by kernel_rfl) (by kernel_rfl) (fun _ => (by kernel_rfl)) (by rw [f2]; rfl) (by kernel_rfl) (fun w G hr => (by rw [f2]; exact ⟨[.int .i64 0, .int .i64 0, .int .i64 1, .int .i32 (-1), .int .i64 3, .int .i32 0], [.int .i64 0, .int .i64 0, .int .i64 2, .int .i32 0, .int .i64 3, .int .i32 0], rfl, ⟨[.int .i64 0], [.int .i64 0, .int .i64 1, .int .i32 (-1), .int .i64 3, .int .i32 0], rfl, rfl, ⟨[.int .i64 0], [.int .i64 1, .int .i32 (-1), .int .i64 3, .int .i32 0], rfl, rfl, ⟨[.int .i64 1], [.int .i32 (-1), .int .i64 3, .int .i32 0], rfl, rfl, ⟨[.int .i32 (-1)], [.int .i64 3, .int .i32 0], rfl, rfl, ⟨[.int .i64 3], [.int .i32 0], rfl, rfl, ⟨[.int .i32 0], [], rfl, rfl, rfl⟩⟩⟩⟩⟩⟩, ⟨[.int .i64 0, .int .i64 0, .int .i64 2, .int .i32 0, .int .i64 3, .int .i32 0], [], rfl, ⟨[.int .i64 0], [.int .i64 0, .int .i64 2, .int .i32 0, .int .i64 3, .int .i32 0], rfl, rfl, ⟨[.int .i64 0], [.int .i64 2, .int .i32 0, .int .i64 3, .int .i32 0], rfl, rfl, ⟨[.int .i64 2], [.int .i32 0, .int .i64 3, .int .i32 0], rfl, rfl, ⟨[.int .i32 0], [.int .i64 3, .int .i32 0], rfl, rfl, ⟨[.int .i64 3], [.int .i32 0], rfl, rfl, ⟨[.int .i32 0], [], rfl, rfl, rfl⟩⟩⟩⟩⟩⟩, rfl⟩⟩)) ?_)
 intro a8 w hS
 have hS := St.fr hS 0 rfl
 have hS : St B _ (Ass.box 113 a4 [.slice e8 e2.length f0] :: Ass.own 69 kS69 e8 f0 e2 :: os) (Ro.sl kS69 (some ⟨a8, 0, none⟩) 2 a6 :: Ro.sl kS69 (some ⟨a8, 0, none⟩) 2 a6 :: rs) := hS.re [1, 1] [] rfl (sub_cons 0 rfl sub_self)
 obtain ⟨f6, f9, H⟩ := b1_out H
 refine EL.of (EO.callD 30 [.pointer (some ⟨a4, 0, none⟩), .slice (some ⟨a8, 0, none⟩) a6.length 2] _ 13 (by kernel_rfl) (by kernel_rfl) (by kernel_rfl) (audit_Log_Add.calls f9 hS) ?_)
 rintro v w ⟨g8, g9, rfl, hS⟩
 refine EL.done (by kernel_rfl) ?_
 refine EQ.code ?_
 refine EW.seq (x := Cd27.r.r.r.r.l) (y := Cd27.r.r.r.r.r) (by kernel_rfl) ?_
 refine EW.region (id := 5) (ops := Cd27.r.r.r.r.l.ops) (by kernel_rfl) ?_
 refine EL.quick 1 [1, 15] [(1, .pointer (some ⟨a4, 0, none⟩)), (15, .pointer (some ⟨a4, 0, none⟩))] (by kernel_rfl) ?_
 obtain ⟨a9, b0, g0, H⟩ := b2_out H
 refine EL.of (EO.callD 36 [.pointer (some ⟨a4, 0, none⟩)] _ 16 (by kernel_rfl) (by kernel_rfl) (by kernel_rfl) (audit_Log_All.calls g0 hS) ?_)
 rintro v w ⟨b3, b5, b4, b6, rfl, hS⟩
 have hS := St.fr hS 1 rfl
 have hS : St B _ (Ass.box 113 a4 [.slice b3 a9.length b5] :: os) (Ro.sl kS69 b4 b6 b0 :: Ro.sl kS69 b4 b6 b0 :: Ro.sl kS69 b3 b5 a9 :: Ro.sl kS69 (some ⟨a8, 0, none⟩) 2 a6 :: Ro.sl kS69 (some ⟨a8, 0, none⟩) 2 a6 :: rs) := hS.re [] [] rfl (sub_cons 0 rfl sub_self)
 obtain ⟨b7, g1, H⟩ := b1_out H
 refine EL.of (EO.callD 33 [.slice b4 b0.length b6] _ 17 (by kernel_rfl) (by kernel_rfl) (by kernel_rfl) (audit_Put.calls g1 hS) ?_)
 rintro v w ⟨b8, b9, rfl, hS⟩
 have hS := St.fr hS 0 rfl
 have hS : St B _ (Ass.box 113 a4 [.slice b3 a9.length b5] :: os) (Ro.sl (Kd.int .u8) b8 b9 b7 :: Ro.sl (Kd.int .u8) b8 b9 b7 :: Ro.sl kS69 b4 b6 b0 :: Ro.sl kS69 b4 b6 b0 :: Ro.sl kS69 b3 b5 a9 :: Ro.sl kS69 (some ⟨a8, 0, none⟩) 2 a6 :: Ro.sl kS69 (some ⟨a8, 0, none⟩) 2 a6 :: rs) := hS.re [] [] rfl (sub_cons 0 rfl sub_self)
 obtain ⟨a0, a7, g2, H⟩ := b2_out H
 refine EL.of (EO.callD 39 [.slice b8 b7.length b9] _ 18 (by kernel_rfl) (by kernel_rfl) (by kernel_rfl) (audit_Read.calls g2 hS) ?_)
 rintro v w ⟨a3, a1, rfl, hS⟩
 refine EL.quick 5 [1, 2, 3] [(1, .pointer (some ⟨a4, 0, none⟩)), (2, .slice a3 a0.length a1), (3, .int .i64 a7)] (by kernel_rfl) ?_
 refine EL.done (by kernel_rfl) ?_
 refine EQ.code ?_
 refine EW.seq (x := Cd27.r.r.r.r.r.l) (y := Cd27.r.r.r.r.r.r) (by kernel_rfl) ?_
 refine EW.region (id := 6) (ops := Cd27.r.r.r.r.r.l.ops) (by kernel_rfl) ?_
 have hS := St.nilR hS (Kd.int .u8)
 have hS : St B _ (Ass.box 113 a4 [.slice b3 a9.length b5] :: os) (Ro.sl (Kd.int .u8) none 0 ([] : List Int) :: Ro.sl (Kd.int .u8) none 0 ([] : List Int) :: Ro.sl kS69 a3 a1 a0 :: Ro.sl (Kd.int .u8) b8 b9 b7 :: Ro.sl (Kd.int .u8) b8 b9 b7 :: Ro.sl kS69 b4 b6 b0 :: Ro.sl kS69 b4 b6 b0 :: Ro.sl kS69 b3 b5 a9 :: Ro.sl kS69 (some ⟨a8, 0, none⟩) 2 a6 :: Ro.sl kS69 (some ⟨a8, 0, none⟩) 2 a6 :: rs) := hS.re [] [] rfl (sub_cons 0 rfl sub_self)
 obtain ⟨c9, a2, g3, H⟩ := b2_out H
 refine EL.of (EO.callD 39 [.slice none ([] : List Int).length 0] _ 22 (by kernel_rfl) (by kernel_rfl) (by kernel_rfl) (audit_Read.calls g3 hS) ?_)
 rintro v w ⟨d1, d3, rfl, hS⟩
 refine EL.quick 5 [1, 2, 3, 5] [(1, .pointer (some ⟨a4, 0, none⟩)), (2, .slice a3 a0.length a1), (3, .int .i64 a7), (5, .int .i64 a2)] (by kernel_rfl) ?_
 refine EL.done (by kernel_rfl) ?_
 refine EQ.code ?_
 refine EW.seq (x := Cd27.r.r.r.r.r.r.l) (y := Cd27.r.r.r.r.r.r.r) (by kernel_rfl) ?_
 refine EW.region (id := 7) (ops := Cd27.r.r.r.r.r.r.l.ops) (by kernel_rfl) ?_
 refine EL.quick 1 [1, 2, 3, 5, 25] [(1, .pointer (some ⟨a4, 0, none⟩)), (2, .slice a3 a0.length a1), (3, .int .i64 a7), (5, .int .i64 a2), (25, .pointer (some ⟨a4, 0, none⟩))] (by kernel_rfl) ?_
 have hS : St B _ (Ass.box 113 a4 [.slice b3 a9.length b5] :: os) (Ro.sl kS69 b3 b5 a9 :: Ro.sl kS69 d1 d3 c9 :: Ro.sl (Kd.int .u8) none 0 ([] : List Int) :: Ro.sl (Kd.int .u8) none 0 ([] : List Int) :: Ro.sl kS69 a3 a1 a0 :: Ro.sl (Kd.int .u8) b8 b9 b7 :: Ro.sl (Kd.int .u8) b8 b9 b7 :: Ro.sl kS69 b4 b6 b0 :: Ro.sl kS69 b4 b6 b0 :: Ro.sl kS69 b3 b5 a9 :: Ro.sl kS69 (some ⟨a8, 0, none⟩) 2 a6 :: Ro.sl kS69 (some ⟨a8, 0, none⟩) 2 a6 :: rs) := hS.re [0] [] rfl (sub_cons 8 rfl sub_self)
 obtain ⟨c1, c2, g4, H⟩ := b2_out H
 refine EL.of (EO.callD 36 [.pointer (some ⟨a4, 0, none⟩)] _ 26 (by kernel_rfl) (by kernel_rfl) (by kernel_rfl) (audit_Log_All_16.calls g4 hS) ?_)
 rintro v w ⟨c4, c5, e4, e5, rfl, hS⟩
 refine EL.quick 3 [1, 2, 3, 5, 29] [(1, .pointer (some ⟨a4, 0, none⟩)), (2, .slice a3 a0.length a1), (3, .int .i64 a7), (5, .int .i64 a2), (29, .bool (decide ((c2.length : Int) = 2)))] (by kernel_rfl) ?_
 by_cases d5 : (c2.length : Int) = 2
 ·rw [if_pos d5] at H
  refine EL.keep [1, 2, 3, 5, 29] [(1, .pointer (some ⟨a4, 0, none⟩)), (2, .slice a3 a0.length a1), (3, .int .i64 a7), (5, .int .i64 a2), (29, .bool (decide ((c2.length : Int) = 2)))] (by kernel_rfl) ?_
  refine EL.as' [(1, .pointer (some ⟨a4, 0, none⟩)), (2, .slice a3 a0.length a1), (3, .int .i64 a7), (5, .int .i64 a2), (29, .bool (true))] (by simp only [dec_t d5, Bool.not_true, Bool.not_false]) ?_
  refine EL.quick 1 [2, 3, 5, 29, 30] [(2, .slice a3 a0.length a1), (3, .int .i64 a7), (5, .int .i64 a2), (29, .bool (true)), (30, .pointer (some ⟨a4, 0, none⟩))] (by kernel_rfl) ?_
  obtain ⟨c0, f4, H⟩ := lt_out H
  refine EL.of (EO.lit hS (Kd.int .i64) 3 66 1 #[(0, .int .i64 2)] [.int .i64 2] c0 31 (by kernel_rfl) (by kernel_rfl) (by kernel_rfl) (fun _ => (by kernel_rfl)) (by rw [f4]; rfl) (by kernel_rfl) (fun w G hr => (by rw [f4]; exact ⟨[.int .i64 2], [], rfl, rfl, rfl⟩)) ?_)
  intro c6 w hS
  have hS := St.fr hS 0 rfl
  have hS : St B _ (Ass.box 113 a4 [.slice c4 c1.length c5] :: Ass.own 69 kS69 e4 e5 c2 :: os) (Ro.sl kS69 c4 c5 c1 :: Ro.sl (Kd.int .i64) (some ⟨c6, 0, none⟩) 1 c0 :: Ro.sl (Kd.int .i64) (some ⟨c6, 0, none⟩) 1 c0 :: Ro.sl kS69 c4 c5 c1 :: Ro.sl kS69 b3 b5 a9 :: Ro.sl kS69 d1 d3 c9 :: Ro.sl (Kd.int .u8) none 0 ([] : List Int) :: Ro.sl (Kd.int .u8) none 0 ([] : List Int) :: Ro.sl kS69 a3 a1 a0 :: Ro.sl (Kd.int .u8) b8 b9 b7 :: Ro.sl (Kd.int .u8) b8 b9 b7 :: Ro.sl kS69 b4 b6 b0 :: Ro.sl kS69 b4 b6 b0 :: Ro.sl kS69 b3 b5 a9 :: Ro.sl kS69 (some ⟨a8, 0, none⟩) 2 a6 :: Ro.sl kS69 (some ⟨a8, 0, none⟩) 2 a6 :: rs) := hS.re [0] [] rfl (sub_cons 1 rfl (sub_cons 0 rfl sub_self))
  obtain ⟨d0, c3, g5, H⟩ := b2_out H
  refine EL.of (EO.callD 37 [.pointer (some ⟨a4, 0, none⟩), .slice (some ⟨c6, 0, none⟩) c0.length 1] _ 32 (by kernel_rfl) (by kernel_rfl) (by kernel_rfl) (audit_Log_Of.calls g5 hS) ?_)
  rintro v w ⟨d2, d4, e9, f1, rfl, hS⟩
  refine EL.quick 4 [2, 3, 5, 36] [(2, .slice a3 a0.length a1), (3, .int .i64 a7), (5, .int .i64 a2), (36, .bool (decide ((c3.length : Int) = 1)))] (by kernel_rfl) ?_
  by_cases d6 : (c3.length : Int) = 1
  ·rw [if_pos d6] at H
   refine EL.keep [2, 3, 5, 36] [(2, .slice a3 a0.length a1), (3, .int .i64 a7), (5, .int .i64 a2), (36, .bool (decide ((c3.length : Int) = 1)))] (by kernel_rfl) ?_
   refine EL.as' [(2, .slice a3 a0.length a1), (3, .int .i64 a7), (5, .int .i64 a2), (36, .bool (true))] (by simp only [dec_t d6, Bool.not_true, Bool.not_false]) ?_
   refine EL.quick 4 [2, 5, 40] [(2, .slice a3 a0.length a1), (5, .int .i64 a2), (40, .bool (decide (a7 = 0)))] (by kernel_rfl) ?_
   by_cases d7 : a7 = 0
   ·rw [if_pos d7] at H
    refine EL.keep [2, 5, 40] [(2, .slice a3 a0.length a1), (5, .int .i64 a2), (40, .bool (decide (a7 = 0)))] (by kernel_rfl) ?_
    refine EL.as' [(2, .slice a3 a0.length a1), (5, .int .i64 a2), (40, .bool (true))] (by simp only [dec_t d7, Bool.not_true, Bool.not_false]) ?_
    refine EL.quick 5 [2, 5, 45] [(2, .slice a3 a0.length a1), (5, .int .i64 a2), (45, .bool (decide ((a0.length : Int) = 2)))] (by kernel_rfl) ?_
    by_cases d8 : (a0.length : Int) = 2
    ·rw [if_pos d8] at H
     refine EL.keep [2, 5, 45] [(2, .slice a3 a0.length a1), (5, .int .i64 a2), (45, .bool (decide ((a0.length : Int) = 2)))] (by kernel_rfl) ?_
     refine EL.as' [(2, .slice a3 a0.length a1), (5, .int .i64 a2), (45, .bool (true))] (by simp only [dec_t d8, Bool.not_true, Bool.not_false]) ?_
     refine EL.quick 1 [2, 5, 45, 46] [(2, .slice a3 a0.length a1), (5, .int .i64 a2), (45, .bool (true)), (46, .slice a3 a0.length a1)] (by kernel_rfl) ?_
     obtain ⟨e7, H⟩ := ite_in H
     obtain ⟨a5, rfl⟩ := St.rd_some hS (Rd.ro 9 rfl) (by decide) e7
     refine EL.of (EO.Y (YO.idx 64 6 a5 a0.length a1 .i64 0 47 (by kernel_rfl) (by kernel_rfl) (by kernel_rfl) (by kernel_rfl) (by decide) e7) ?_)
     refine EL.quick 1 [2, 5, 45, 48] [(2, .slice (some a5) a0.length a1), (5, .int .i64 a2), (45, .bool (true)), (48, .pointer (some ((a5.add ((0 : Int).toNat * 6)).add 3)))] (by kernel_rfl) ?_
     refine EL.of (EO.Y (YO.loadEl hS kS69 a5 a1 a0 (Rd.ro 9 rfl) zS69 encS69 encS69_of 0 (by decide) e7 21 6 3 1 rfl (.int .i32 ((a0.getD (0 : Int).toNat zS69).f3)) 49 (by kernel_rfl) (by kernel_rfl) (by kernel_rfl) (by kernel_rfl)) ?_)
     refine EL.quick 3 [2, 5, 52] [(2, .slice (some a5) a0.length a1), (5, .int .i64 a2), (52, .bool (decide (((a0.getD (0 : Int).toNat zS69).f3) = (-1))))] (by kernel_rfl) ?_
     by_cases d9 : ((a0.getD (0 : Int).toNat zS69).f3) = (-1)
     ·rw [if_pos d9] at H
      refine EL.keep [2, 5, 52] [(2, .slice (some a5) a0.length a1), (5, .int .i64 a2), (52, .bool (decide (((a0.getD (0 : Int).toNat zS69).f3) = (-1))))] (by kernel_rfl) ?_
      refine EL.as' [(2, .slice (some a5) a0.length a1), (5, .int .i64 a2), (52, .bool (true))] (by simp only [dec_t d9, Bool.not_true, Bool.not_false]) ?_
      refine EL.quick 4 [2, 56] [(2, .slice (some a5) a0.length a1), (56, .bool (decide (a2 = 20)))] (by kernel_rfl) ?_
      by_cases e0 : a2 = 20
      ·rw [if_pos e0] at H
       refine EL.keep [2, 56] [(2, .slice (some a5) a0.length a1), (56, .bool (decide (a2 = 20)))] (by kernel_rfl) ?_
       refine EL.as' [(2, .slice (some a5) a0.length a1), (56, .bool (true))] (by simp only [dec_t e0, Bool.not_true, Bool.not_false]) ?_
       refine EL.quick 1 [56, 57] [(56, .bool (true)), (57, .slice (some a5) a0.length a1)] (by kernel_rfl) ?_
       have hS : St B _ (Ass.box 113 a4 [.slice d2 d0.length d4] :: Ass.own 69 kS69 e9 f1 c3 :: Ass.own 69 kS69 e4 e5 c2 :: os) (Ro.sl kS69 (some a5) a1 a0 :: Ro.sl kS69 d2 d4 d0 :: Ro.sl kS69 c4 c5 c1 :: Ro.sl (Kd.int .i64) (some ⟨c6, 0, none⟩) 1 c0 :: Ro.sl (Kd.int .i64) (some ⟨c6, 0, none⟩) 1 c0 :: Ro.sl kS69 c4 c5 c1 :: Ro.sl kS69 b3 b5 a9 :: Ro.sl kS69 d1 d3 c9 :: Ro.sl (Kd.int .u8) none 0 ([] : List Int) :: Ro.sl (Kd.int .u8) none 0 ([] : List Int) :: Ro.sl kS69 (some a5) a1 a0 :: Ro.sl (Kd.int .u8) b8 b9 b7 :: Ro.sl (Kd.int .u8) b8 b9 b7 :: Ro.sl kS69 b4 b6 b0 :: Ro.sl kS69 b4 b6 b0 :: Ro.sl kS69 b3 b5 a9 :: Ro.sl kS69 (some ⟨a8, 0, none⟩) 2 a6 :: Ro.sl kS69 (some ⟨a8, 0, none⟩) 2 a6 :: rs) := hS.re [] [] rfl (sub_cons 9 rfl sub_self)
       obtain ⟨c8, g6, H⟩ := b1_out H
       refine EL.of (EO.callD 31 [.slice (some a5) a0.length a1] _ 58 (by kernel_rfl) (by kernel_rfl) (by kernel_rfl) (audit_Right.calls g6 hS) ?_)
       rintro v w ⟨rfl, hS⟩
       refine EL.quick 2 [60] [(60, .bool (c8))] (by kernel_rfl) ?_
       by_cases e1 : c8 = true
       ·rw [if_pos e1] at H
        refine EL.keep [60] [(60, .bool (c8))] (by kernel_rfl) ?_
        refine EL.as' [(60, .bool (true))] (by simp only [e1, Bool.not_true, Bool.not_false]) ?_
        refine EL.quick 1 [60, 61] [(60, .bool (true)), (61, .agg #[.int .i64 1, .int .i64 0, .int .i64 0, .int .i32 0, .int .i64 0, .int .i32 0])] (by kernel_rfl) ?_
        obtain ⟨c7, f5, H⟩ := lt_out H
        refine EL.of (EO.lit hS kS69 69 64 1 #[(0, .agg #[.int .i64 1, .int .i64 0, .int .i64 0, .int .i32 0, .int .i64 0, .int .i32 0])] [.int .i64 1, .int .i64 0, .int .i64 0, .int .i32 0, .int .i64 0, .int .i32 0] c7 62 (by kernel_rfl) (by kernel_rfl) (by kernel_rfl) (fun _ => (by kernel_rfl)) (by rw [f5]; rfl) (by kernel_rfl) (fun w G hr => (by rw [f5]; exact ⟨[.int .i64 1, .int .i64 0, .int .i64 0, .int .i32 0, .int .i64 0, .int .i32 0], [], rfl, ⟨[.int .i64 1], [.int .i64 0, .int .i64 0, .int .i32 0, .int .i64 0, .int .i32 0], rfl, rfl, ⟨[.int .i64 0], [.int .i64 0, .int .i32 0, .int .i64 0, .int .i32 0], rfl, rfl, ⟨[.int .i64 0], [.int .i32 0, .int .i64 0, .int .i32 0], rfl, rfl, ⟨[.int .i32 0], [.int .i64 0, .int .i32 0], rfl, rfl, ⟨[.int .i64 0], [.int .i32 0], rfl, rfl, ⟨[.int .i32 0], [], rfl, rfl, rfl⟩⟩⟩⟩⟩⟩, rfl⟩)) ?_)
        intro e6 w hS
        have hS := St.fr hS 0 rfl
        have hS : St B _ (Ass.box 113 a4 [.slice d2 d0.length d4] :: Ass.own 69 kS69 e9 f1 c3 :: Ass.own 69 kS69 e4 e5 c2 :: os) (Ro.sl kS69 (some ⟨e6, 0, none⟩) 1 c7 :: Ro.sl kS69 (some ⟨e6, 0, none⟩) 1 c7 :: Ro.sl kS69 (some a5) a1 a0 :: Ro.sl kS69 d2 d4 d0 :: Ro.sl kS69 c4 c5 c1 :: Ro.sl (Kd.int .i64) (some ⟨c6, 0, none⟩) 1 c0 :: Ro.sl (Kd.int .i64) (some ⟨c6, 0, none⟩) 1 c0 :: Ro.sl kS69 c4 c5 c1 :: Ro.sl kS69 b3 b5 a9 :: Ro.sl kS69 d1 d3 c9 :: Ro.sl (Kd.int .u8) none 0 ([] : List Int) :: Ro.sl (Kd.int .u8) none 0 ([] : List Int) :: Ro.sl kS69 (some a5) a1 a0 :: Ro.sl (Kd.int .u8) b8 b9 b7 :: Ro.sl (Kd.int .u8) b8 b9 b7 :: Ro.sl kS69 b4 b6 b0 :: Ro.sl kS69 b4 b6 b0 :: Ro.sl kS69 b3 b5 a9 :: Ro.sl kS69 (some ⟨a8, 0, none⟩) 2 a6 :: Ro.sl kS69 (some ⟨a8, 0, none⟩) 2 a6 :: rs) := hS.re [] [] rfl (sub_cons 0 rfl sub_self)
        obtain ⟨e3, g7, H⟩ := b1_out H
        refine EL.of (EO.callD 31 [.slice (some ⟨e6, 0, none⟩) c7.length 1] _ 63 (by kernel_rfl) (by kernel_rfl) (by kernel_rfl) (audit_Right.calls g7 hS) ?_)
        rintro v w ⟨rfl, hS⟩
        refine EL.quick 3 [0] [(0, .bool (!(e3)))] (by kernel_rfl) ?_
        refine EL.done (by kernel_rfl) ?_
        refine EQ.code ?_
        refine EW.ret (by kernel_rfl) ?_
        obtain rfl := Option.some.inj H
        exact EQ.leave (.bool (!(e3))) (by kernel_rfl) ⟨_, rfl, rfl, (hS.re [] [0, 0, 0] rfl (sub_tail (sub_tail (sub_tail (sub_tail (sub_tail (sub_tail (sub_tail (sub_tail (sub_tail (sub_tail (sub_tail (sub_tail (sub_tail (sub_tail (sub_tail (sub_tail (sub_tail (sub_tail (sub_tail (sub_tail (sub_self))))))))))))))))))))))⟩
       ·rw [if_neg e1] at H
        refine EL.keep [60] [(60, .bool (c8))] (by kernel_rfl) ?_
        refine EL.as' [(60, .bool (false))] (by simp only [(Bool.eq_false_iff.2 e1), Bool.not_true, Bool.not_false]) ?_
        refine EL.quick 6 [0] [(0, .bool (false))] (by kernel_rfl) ?_
        refine EL.done (by kernel_rfl) ?_
        refine EQ.code ?_
        refine EW.ret (by kernel_rfl) ?_
        obtain rfl := Option.some.inj H
        exact EQ.leave (.bool (false)) (by kernel_rfl) ⟨_, rfl, rfl, (hS.re [] [0, 0, 0] rfl (sub_tail (sub_tail (sub_tail (sub_tail (sub_tail (sub_tail (sub_tail (sub_tail (sub_tail (sub_tail (sub_tail (sub_tail (sub_tail (sub_tail (sub_tail (sub_tail (sub_tail (sub_tail (sub_self))))))))))))))))))))⟩
      ·rw [if_neg e0] at H
       refine EL.keep [2, 56] [(2, .slice (some a5) a0.length a1), (56, .bool (decide (a2 = 20)))] (by kernel_rfl) ?_
       refine EL.as' [(2, .slice (some a5) a0.length a1), (56, .bool (false))] (by simp only [dec_f e0, Bool.not_true, Bool.not_false]) ?_
       refine EL.quick 10 [0] [(0, .bool (false))] (by kernel_rfl) ?_
       refine EL.done (by kernel_rfl) ?_
       refine EQ.code ?_
       refine EW.ret (by kernel_rfl) ?_
       obtain rfl := Option.some.inj H
       exact EQ.leave (.bool (false)) (by kernel_rfl) ⟨_, rfl, rfl, (hS.re [] [0, 0, 0] rfl (sub_tail (sub_tail (sub_tail (sub_tail (sub_tail (sub_tail (sub_tail (sub_tail (sub_tail (sub_tail (sub_tail (sub_tail (sub_tail (sub_tail (sub_tail (sub_tail (sub_tail (sub_self)))))))))))))))))))⟩
     ·rw [if_neg d9] at H
      refine EL.keep [2, 5, 52] [(2, .slice (some a5) a0.length a1), (5, .int .i64 a2), (52, .bool (decide (((a0.getD (0 : Int).toNat zS69).f3) = (-1))))] (by kernel_rfl) ?_
      refine EL.as' [(2, .slice (some a5) a0.length a1), (5, .int .i64 a2), (52, .bool (false))] (by simp only [dec_f d9, Bool.not_true, Bool.not_false]) ?_
      refine EL.quick 14 [0] [(0, .bool (false))] (by kernel_rfl) ?_
      refine EL.done (by kernel_rfl) ?_
      refine EQ.code ?_
      refine EW.ret (by kernel_rfl) ?_
      obtain rfl := Option.some.inj H
      exact EQ.leave (.bool (false)) (by kernel_rfl) ⟨_, rfl, rfl, (hS.re [] [0, 0, 0] rfl (sub_tail (sub_tail (sub_tail (sub_tail (sub_tail (sub_tail (sub_tail (sub_tail (sub_tail (sub_tail (sub_tail (sub_tail (sub_tail (sub_tail (sub_tail (sub_tail (sub_tail (sub_self)))))))))))))))))))⟩
    ·rw [if_neg d8] at H
     refine EL.keep [2, 5, 45] [(2, .slice a3 a0.length a1), (5, .int .i64 a2), (45, .bool (decide ((a0.length : Int) = 2)))] (by kernel_rfl) ?_
     refine EL.as' [(2, .slice a3 a0.length a1), (5, .int .i64 a2), (45, .bool (false))] (by simp only [dec_f d8, Bool.not_true, Bool.not_false]) ?_
     refine EL.quick 21 [0] [(0, .bool (false))] (by kernel_rfl) ?_
     refine EL.done (by kernel_rfl) ?_
     refine EQ.code ?_
     refine EW.ret (by kernel_rfl) ?_
     obtain rfl := Option.some.inj H
     exact EQ.leave (.bool (false)) (by kernel_rfl) ⟨_, rfl, rfl, (hS.re [] [0, 0, 0] rfl (sub_tail (sub_tail (sub_tail (sub_tail (sub_tail (sub_tail (sub_tail (sub_tail (sub_tail (sub_tail (sub_tail (sub_tail (sub_tail (sub_tail (sub_tail (sub_tail (sub_tail (sub_self)))))))))))))))))))⟩
   ·rw [if_neg d7] at H
    refine EL.keep [2, 5, 40] [(2, .slice a3 a0.length a1), (5, .int .i64 a2), (40, .bool (decide (a7 = 0)))] (by kernel_rfl) ?_
    refine EL.as' [(2, .slice a3 a0.length a1), (5, .int .i64 a2), (40, .bool (false))] (by simp only [dec_f d7, Bool.not_true, Bool.not_false]) ?_
    refine EL.quick 26 [0] [(0, .bool (false))] (by kernel_rfl) ?_
    refine EL.done (by kernel_rfl) ?_
    refine EQ.code ?_
    refine EW.ret (by kernel_rfl) ?_
    obtain rfl := Option.some.inj H
    exact EQ.leave (.bool (false)) (by kernel_rfl) ⟨_, rfl, rfl, (hS.re [] [0, 0, 0] rfl (sub_tail (sub_tail (sub_tail (sub_tail (sub_tail (sub_tail (sub_tail (sub_tail (sub_tail (sub_tail (sub_tail (sub_tail (sub_tail (sub_tail (sub_tail (sub_tail (sub_tail (sub_self)))))))))))))))))))⟩
  ·rw [if_neg d6] at H
   refine EL.keep [2, 3, 5, 36] [(2, .slice a3 a0.length a1), (3, .int .i64 a7), (5, .int .i64 a2), (36, .bool (decide ((c3.length : Int) = 1)))] (by kernel_rfl) ?_
   refine EL.as' [(2, .slice a3 a0.length a1), (3, .int .i64 a7), (5, .int .i64 a2), (36, .bool (false))] (by simp only [dec_f d6, Bool.not_true, Bool.not_false]) ?_
   refine EL.quick 30 [0] [(0, .bool (false))] (by kernel_rfl) ?_
   refine EL.done (by kernel_rfl) ?_
   refine EQ.code ?_
   refine EW.ret (by kernel_rfl) ?_
   obtain rfl := Option.some.inj H
   exact EQ.leave (.bool (false)) (by kernel_rfl) ⟨_, rfl, rfl, (hS.re [] [0, 0, 0] rfl (sub_tail (sub_tail (sub_tail (sub_tail (sub_tail (sub_tail (sub_tail (sub_tail (sub_tail (sub_tail (sub_tail (sub_tail (sub_tail (sub_tail (sub_tail (sub_tail (sub_tail (sub_self)))))))))))))))))))⟩
 ·rw [if_neg d5] at H
  refine EL.keep [1, 2, 3, 5, 29] [(1, .pointer (some ⟨a4, 0, none⟩)), (2, .slice a3 a0.length a1), (3, .int .i64 a7), (5, .int .i64 a2), (29, .bool (decide ((c2.length : Int) = 2)))] (by kernel_rfl) ?_
  refine EL.as' [(1, .pointer (some ⟨a4, 0, none⟩)), (2, .slice a3 a0.length a1), (3, .int .i64 a7), (5, .int .i64 a2), (29, .bool (false))] (by simp only [dec_f d5, Bool.not_true, Bool.not_false]) ?_
  refine EL.quick 37 [0] [(0, .bool (false))] (by kernel_rfl) ?_
  refine EL.done (by kernel_rfl) ?_
  refine EQ.code ?_
  refine EW.ret (by kernel_rfl) ?_
  obtain rfl := Option.some.inj H
  exact EQ.leave (.bool (false)) (by kernel_rfl) ⟨_, rfl, rfl, (hS.re [] [0, 0] rfl (sub_tail (sub_tail (sub_tail (sub_tail (sub_tail (sub_tail (sub_tail (sub_tail (sub_tail (sub_tail (sub_tail (sub_tail (sub_tail (sub_self)))))))))))))))⟩

/-! ### confidant/confidantlaw22.some: function 28 -/
def confidantlaw22_some.l0 (K : Nat) (a0 : List S111) : Nat → Int → Int → Int → Int → (List S69) → Int → Int → Option (List S69)
 | 0, _, _, _, _, _, _, _ => none
 | n + 1, a6, a7, a8, a9, b0, c3, a1 => if a1 < (a0.length : Int) then (lt (fun (f5 : List S69) (d9 : Int) (e0 : Int) (e1 : Int) (e2 : Int) (c4 : List S69) (c9 : Int) => (confidantlaw22_some.l0 K a0 n d9 e0 e1 e2 c4 c9 (IntKind.i64.wrap (a1 + 1)))) fun d6 => (if 0 ≤ a1 then (lt (IntKind.i64.wrap (c3 + (IntKind.i64.wrap (Int.tmod ((a0.getD a1.toNat zS111).f0) 3)))) fun a4 => (lt (fun (c0 : List S69) (b5 : List S69) (b9 : Int) => (if b9 = 0 then (d6 c0 (IntKind.i64.wrap (a6 + 1)) a7 a8 a9 b5 a4) else (if b9 = 1 then (d6 c0 a6 (IntKind.i64.wrap (a7 + 1)) a8 a9 b5 a4) else (if b9 = 2 then (d6 c0 a6 a7 (IntKind.i64.wrap (a8 + 1)) a9 b5 a4) else (if b9 = 3 then (d6 c0 a6 a7 a8 (IntKind.i64.wrap (a9 + 1)) b5 a4) else (none)))))) fun d7 => (if (IntKind.i64.wrap (Int.tmod ((a0.getD a1.toNat zS111).f1) 4)) = 0 then (lt ([(⟨a6, IntKind.i64.wrap (Int.tmod ((a0.getD a1.toNat zS111).f2) 5), 0, IntKind.i32.wrap ((IntKind.i32.wrap ((a0.getD a1.toNat zS111).f3)) - 128), a4, IntKind.i32.wrap ((a0.getD a1.toNat zS111).f2)⟩ : S69)] : List S69) fun c5 => (if (b0.length + c5.length) * 48 ≤ 140737488355328 then (lt (b0 ++ c5) fun d0 => (d7 c5 d0 0)) else none)) else (if (IntKind.i64.wrap (Int.tmod ((a0.getD a1.toNat zS111).f1) 4)) = 1 then (lt ([(⟨a7, IntKind.i64.wrap (Int.tmod ((a0.getD a1.toNat zS111).f2) 5), 1, IntKind.i32.wrap ((IntKind.i32.wrap ((a0.getD a1.toNat zS111).f3)) - 128), a4, IntKind.i32.wrap ((a0.getD a1.toNat zS111).f2)⟩ : S69)] : List S69) fun c6 => (if (b0.length + c6.length) * 48 ≤ 140737488355328 then (lt (b0 ++ c6) fun d1 => (d7 c6 d1 1)) else none)) else (if (IntKind.i64.wrap (Int.tmod ((a0.getD a1.toNat zS111).f1) 4)) = 2 then (lt ([(⟨a8, IntKind.i64.wrap (Int.tmod ((a0.getD a1.toNat zS111).f2) 5), 2, IntKind.i32.wrap ((IntKind.i32.wrap ((a0.getD a1.toNat zS111).f3)) - 128), a4, IntKind.i32.wrap ((a0.getD a1.toNat zS111).f2)⟩ : S69)] : List S69) fun c7 => (if (b0.length + c7.length) * 48 ≤ 140737488355328 then (lt (b0 ++ c7) fun d2 => (d7 c7 d2 2)) else none)) else (if (IntKind.i64.wrap (Int.tmod ((a0.getD a1.toNat zS111).f1) 4)) = 3 then (lt ([(⟨a9, IntKind.i64.wrap (Int.tmod ((a0.getD a1.toNat zS111).f2) 5), 3, IntKind.i32.wrap ((IntKind.i32.wrap ((a0.getD a1.toNat zS111).f3)) - 128), a4, IntKind.i32.wrap ((a0.getD a1.toNat zS111).f2)⟩ : S69)] : List S69) fun c8 => (if (b0.length + c8.length) * 48 ≤ 140737488355328 then (lt (b0 ++ c8) fun d3 => (d7 c8 d3 3)) else none)) else (none))))))) else none)) else (some b0)
def confidantlaw22_some.f (K : Nat) (a0 : List S111) : Option (List S69) := confidantlaw22_some.l0 K a0 K 0 0 0 0 ([] : List S69) 0 0
set_option maxRecDepth 100000 in
theorem confidantlaw22_some.calls {K : Nat} {a0 : List S111} {b8 : Option Addr} {a2 : Nat} {d8 : List S69} {B w : World} {os : List Ass} {rs : List Ro} (H : confidantlaw22_some.f K a0 = some d8) (hS : St B w (os) (Ro.sl kS111 b8 a2 a0 :: rs)) :
  Calls Try.prog 28 [.slice b8 a0.length a2].toArray w (fun en w' => ∃ v, en = .returned v ∧ ∃ g8 : Option Addr, ∃ i0 : Nat, v = .slice g8 d8.length i0 ∧ St B w' (Ass.own 69 kS69 g8 i0 d8 :: os) (Ro.sl kS111 b8 a2 a0 :: rs)) := by
 unfold confidantlaw22_some.f at H
 refine calls_of_EW (args := [.slice b8 a0.length a2]) (c := Cd28) 65 Try.func28 (by kernel_rfl) (by kernel_rfl) (by kernel_rfl) ?_
 refine EW.seq (x := Cd28.l) (y := Cd28.r) (by kernel_rfl) ?_
 refine EW.region (id := 0) (ops := Cd28.l.ops) (by kernel_rfl) ?_
 refine EL.quick 1 [0] [(0, .slice b8 a0.length a2)] (by kernel_rfl) ?_
 refine EL.done (by kernel_rfl) ?_
 refine EQ.code ?_
 refine EW.seq (x := Cd28.r.l) (y := Cd28.r.r) (by kernel_rfl) ?_
 refine EW.region (id := 1) (ops := Cd28.r.l.ops) (by kernel_rfl) ?_
 refine EL.quick 1 [0, 3] [(0, .slice b8 a0.length a2), (3, .slice none ([] : List S69).length 0)] (by kernel_rfl) ?_
 refine EL.done (by kernel_rfl) ?_
 refine EQ.code ?_
 refine EW.seq (x := Cd28.r.r.l) (y := Cd28.r.r.r) (by kernel_rfl) ?_
 refine EW.region (id := 2) (ops := Cd28.r.r.l.ops) (by kernel_rfl) ?_
 refine EL.of (EO.alloc hS 110 (.agg #[.int .i64 0, .int .i64 0, .int .i64 0, .int .i64 0]) [.int .i64 0, .int .i64 0, .int .i64 0, .int .i64 0] 4 (by kernel_rfl) (by kernel_rfl) (by kernel_rfl) (by kernel_rfl) (by first | rfl | kernel_rfl) ?_)
 intro a5 w hS
 refine EL.done (by kernel_rfl) ?_
 refine EQ.code ?_
 refine EW.seq (x := Cd28.r.r.r.l) (y := Cd28.r.r.r.r) (by kernel_rfl) ?_
 refine EW.region (id := 3) (ops := Cd28.r.r.r.l.ops) (by kernel_rfl) ?_
 refine EL.quick 1 [0, 3, 4, 5] [(0, .slice b8 a0.length a2), (3, .slice none ([] : List S69).length 0), (4, .pointer (some ⟨a5, 0, none⟩)), (5, .int .i64 0)] (by kernel_rfl) ?_
 refine EL.done (by kernel_rfl) ?_
 refine EQ.code ?_
 refine EW.seq (x := Cd28.r.r.r.r.l) (y := Cd28.r.r.r.r.r) (by kernel_rfl) ?_
 refine EW.seq (x := Cd28.r.r.r.r.l.l) (y := Cd28.r.r.r.r.l.r) (by kernel_rfl) ?_
 refine EW.region (id := 4) (ops := Cd28.r.r.r.r.l.l.ops) (by kernel_rfl) ?_
 refine EL.quick 1 [0, 3, 4, 5, 6] [(0, .slice b8 a0.length a2), (3, .slice none ([] : List S69).length 0), (4, .pointer (some ⟨a5, 0, none⟩)), (5, .int .i64 0), (6, .int .i64 0)] (by kernel_rfl) ?_
 refine EL.done (by kernel_rfl) ?_
 refine EQ.code ?_
 refine EW.block (x := Cd28.r.r.r.r.l.r.l) (id := 0) (by kernel_rfl) ?_
 have hS := St.nilO hS 69 kS69
 refine EW.loop (x := Cd28.r.r.r.r.l.r.l.l) (fun n a w => ∃ a6 : Int, ∃ a7 : Int, ∃ a8 : Int, ∃ a9 : Int, ∃ b0 : List S69, ∃ c3 : Int, ∃ a1 : Int, ∃ b3 : Option Addr, ∃ b4 : Nat, Sat 65 [(0, .slice b8 a0.length a2), (3, .slice b3 b0.length b4), (4, .pointer (some ⟨a5, 0, none⟩)), (5, .int .i64 c3), (6, .int .i64 a1)] a ∧ St B w (Ass.box 110 a5 [.int .i64 a6, .int .i64 a7, .int .i64 a8, .int .i64 a9] :: Ass.own 69 kS69 b3 b4 b0 :: os) (Ro.sl kS111 b8 a2 a0 :: rs) ∧ confidantlaw22_some.l0 K a0 n a6 a7 a8 a9 b0 c3 a1 = some d8) K (by kernel_rfl) ?_ (fun n a w hI => ?_)
 ·refine EQ.keep [0, 3, 4, 5, 6] [(0, .slice b8 a0.length a2), (3, .slice none ([] : List S69).length 0), (4, .pointer (some ⟨a5, 0, none⟩)), (5, .int .i64 0), (6, .int .i64 0)] (by kernel_rfl) ?_
  exact fun a ha => ⟨0, 0, 0, 0, ([] : List S69), 0, 0, none, 0, ha, (hS.re [0, 1] [] rfl (sub_cons 0 rfl (sub_tail (sub_self)))), H⟩
 ·obtain ⟨a6, a7, a8, a9, b0, c3, a1, b3, b4, ha, hS, H⟩ := hI
  obtain _ | n := n
  ·simp [confidantlaw22_some.l0] at H
  rw [confidantlaw22_some.l0.eq_2] at H
  refine EW.at ?_ a ha
  clear ha a
  refine EW.seq (x := Cd28.r.r.r.r.l.r.l.l.l) (y := Cd28.r.r.r.r.l.r.l.l.r) (by kernel_rfl) ?_
  refine EW.seq (x := Cd28.r.r.r.r.l.r.l.l.l.l) (y := Cd28.r.r.r.r.l.r.l.l.l.r) (by kernel_rfl) ?_
  refine EW.region (id := 5) (ops := Cd28.r.r.r.r.l.r.l.l.l.l.ops) (by kernel_rfl) ?_
  refine EL.quick 4 [0, 3, 4, 5, 6, 11] [(0, .slice b8 a0.length a2), (3, .slice b3 b0.length b4), (4, .pointer (some ⟨a5, 0, none⟩)), (5, .int .i64 c3), (6, .int .i64 a1), (11, .bool (decide (a1 < (a0.length : Int))))] (by kernel_rfl) ?_
  refine EL.done (by kernel_rfl) ?_
  refine EQ.code ?_
  refine EW.condP (o := (.tmp 11)) (x := Cd28.r.r.r.r.l.r.l.l.l.r.l) (y := Cd28.r.r.r.r.l.r.l.l.l.r.r) (a1 < (a0.length : Int)) (by kernel_rfl) (by kernel_rfl) (fun b1 => ?_) (fun b1 => ?_)
  ·rw [if_pos b1] at H
   refine EW.skip (by kernel_rfl) ?_
   refine EQ.code ?_
   obtain ⟨d6, j0, H⟩ := lt_out H
   refine EW.cut (x := Cd28.r.r.r.r.l.r.l.l.r.l) (y := Cd28.r.r.r.r.l.r.l.l.r.r) (fun a w => ∃ f5 : List S69, ∃ d9 : Int, ∃ e0 : Int, ∃ e1 : Int, ∃ e2 : Int, ∃ c4 : List S69, ∃ c9 : Int, ∃ g9 : Option Addr, ∃ i1 : Nat, ∃ d4 : Option Addr, ∃ d5 : Nat, Sat 65 [(0, .slice b8 a0.length a2), (3, .slice d4 c4.length d5), (4, .pointer (some ⟨a5, 0, none⟩)), (5, .int .i64 c9), (6, .int .i64 a1)] a ∧ St B w (Ass.own 69 kS69 g9 i1 f5 :: Ass.box 110 a5 [.int .i64 d9, .int .i64 e0, .int .i64 e1, .int .i64 e2] :: Ass.own 69 kS69 d4 d5 c4 :: os) (Ro.sl kS111 b8 a2 a0 :: rs) ∧ d6 f5 d9 e0 e1 e2 c4 c9 = some d8) (by kernel_rfl) ?_ (fun a w hI => ?_)
   ·refine EW.block (x := Cd28.r.r.r.r.l.r.l.l.r.l.l) (id := 1) (by kernel_rfl) ?_
    refine EW.seq (x := Cd28.r.r.r.r.l.r.l.l.r.l.l.l) (y := Cd28.r.r.r.r.l.r.l.l.r.l.l.r) (by kernel_rfl) ?_
    refine EW.region (id := 7) (ops := Cd28.r.r.r.r.l.r.l.l.r.l.l.l.ops) (by kernel_rfl) ?_
    refine EL.quick 3 [0, 3, 4, 6, 14, 15, 16] [(0, .slice b8 a0.length a2), (3, .slice b3 b0.length b4), (4, .pointer (some ⟨a5, 0, none⟩)), (6, .int .i64 a1), (14, .int .i64 c3), (15, .slice b8 a0.length a2), (16, .int .i64 a1)] (by kernel_rfl) ?_
    obtain ⟨b2, H⟩ := ite_in H
    obtain ⟨a3, rfl⟩ := St.rd_some hS (Rd.ro 0 rfl) b2 b1
    refine EL.of (EO.Y (YO.idx 65 4 a3 a0.length a2 .i64 a1 17 (by kernel_rfl) (by kernel_rfl) (by kernel_rfl) (by kernel_rfl) b2 b1) ?_)
    refine EL.of (EO.Y (YO.idxEp hS (Rd.ro 0 rfl) a1 b2 b1 111 4 0 4 1 0 .i64 18 (by kernel_rfl) (by kernel_rfl) (by kernel_rfl) (by kernel_rfl) (by kernel_rfl)) ?_)
    refine EL.of (EO.Y (YO.loadEl hS kS111 a3 a2 a0 (Rd.ro 0 rfl) zS111 encS111 encS111_of a1 b2 b1 5 4 0 1 rfl (.int .u8 ((a0.getD a1.toNat zS111).f0)) 19 (by kernel_rfl) (by kernel_rfl) (by kernel_rfl) (by kernel_rfl)) ?_)
    refine EL.quick 4 [0, 3, 4, 5, 6] [(0, .slice (some a3) a0.length a2), (3, .slice b3 b0.length b4), (4, .pointer (some ⟨a5, 0, none⟩)), (5, .int .i64 (IntKind.i64.wrap (c3 + (IntKind.i64.wrap (Int.tmod ((a0.getD a1.toNat zS111).f0) 3))))), (6, .int .i64 a1)] (by kernel_rfl) ?_
    obtain ⟨a4, j6, H⟩ := lt_out H
    refine EL.keep [0, 3, 4, 5, 6] [(0, .slice (some a3) a0.length a2), (3, .slice b3 b0.length b4), (4, .pointer (some ⟨a5, 0, none⟩)), (5, .int .i64 (IntKind.i64.wrap (c3 + (IntKind.i64.wrap (Int.tmod ((a0.getD a1.toNat zS111).f0) 3))))), (6, .int .i64 a1)] (by kernel_rfl) ?_
    refine EL.as' [(0, .slice (some a3) a0.length a2), (3, .slice b3 b0.length b4), (4, .pointer (some ⟨a5, 0, none⟩)), (5, .int .i64 a4), (6, .int .i64 a1)] (by subst j6; rfl) ?_
    refine EL.done (by kernel_rfl) ?_
    refine EQ.code ?_
    refine EW.seq (x := Cd28.r.r.r.r.l.r.l.l.r.l.l.r.l) (y := Cd28.r.r.r.r.l.r.l.l.r.l.l.r.r) (by kernel_rfl) ?_
    refine EW.region (id := 8) (ops := Cd28.r.r.r.r.l.r.l.l.r.l.l.r.l.ops) (by kernel_rfl) ?_
    refine EL.quick 2 [0, 3, 4, 5, 6, 23, 24] [(0, .slice (some a3) a0.length a2), (3, .slice b3 b0.length b4), (4, .pointer (some ⟨a5, 0, none⟩)), (5, .int .i64 a4), (6, .int .i64 a1), (23, .slice (some a3) a0.length a2), (24, .int .i64 a1)] (by kernel_rfl) ?_
    refine EL.of (EO.Y (YO.idx 65 4 a3 a0.length a2 .i64 a1 25 (by kernel_rfl) (by kernel_rfl) (by kernel_rfl) (by kernel_rfl) b2 b1) ?_)
    refine EL.of (EO.Y (YO.idxEp hS (Rd.ro 0 rfl) a1 b2 b1 111 4 0 4 1 1 .i64 26 (by kernel_rfl) (by kernel_rfl) (by kernel_rfl) (by kernel_rfl) (by kernel_rfl)) ?_)
    refine EL.of (EO.Y (YO.loadEl hS kS111 a3 a2 a0 (Rd.ro 0 rfl) zS111 encS111 encS111_of a1 b2 b1 5 4 1 1 rfl (.int .u8 ((a0.getD a1.toNat zS111).f1)) 27 (by kernel_rfl) (by kernel_rfl) (by kernel_rfl) (by kernel_rfl)) ?_)
    refine EL.quick 3 [0, 3, 4, 5, 6, 7] [(0, .slice (some a3) a0.length a2), (3, .slice b3 b0.length b4), (4, .pointer (some ⟨a5, 0, none⟩)), (5, .int .i64 a4), (6, .int .i64 a1), (7, .int .i64 (IntKind.i64.wrap (Int.tmod ((a0.getD a1.toNat zS111).f1) 4)))] (by kernel_rfl) ?_
    refine EL.done (by kernel_rfl) ?_
    refine EQ.code ?_
    obtain ⟨d7, j1, H⟩ := lt_out H
    refine EW.cut (x := Cd28.r.r.r.r.l.r.l.l.r.l.l.r.r.l) (y := Cd28.r.r.r.r.l.r.l.l.r.l.l.r.r.r) (fun a w => ∃ c0 : List S69, ∃ b5 : List S69, ∃ b9 : Int, ∃ c1 : Option Addr, ∃ c2 : Nat, ∃ b6 : Option Addr, ∃ b7 : Nat, Sat 65 [(0, .slice (some a3) a0.length a2), (3, .slice b6 b5.length b7), (4, .pointer (some ⟨a5, 0, none⟩)), (5, .int .i64 a4), (6, .int .i64 a1), (7, .int .i64 b9)] a ∧ St B w (Ass.own 69 kS69 c1 c2 c0 :: Ass.box 110 a5 [.int .i64 a6, .int .i64 a7, .int .i64 a8, .int .i64 a9] :: Ass.own 69 kS69 b6 b7 b5 :: os) (Ro.sl kS111 (some a3) a2 a0 :: rs) ∧ d7 c0 b5 b9 = some d8) (by kernel_rfl) ?_ (fun a w hI => ?_)
    ·by_cases g0 : (IntKind.i64.wrap (Int.tmod ((a0.getD a1.toNat zS111).f1) 4)) = 0
     ·rw [if_pos g0] at H
      refine EW.keep [0, 3, 4, 5, 6, 7] [(0, .slice (some a3) a0.length a2), (3, .slice b3 b0.length b4), (4, .pointer (some ⟨a5, 0, none⟩)), (5, .int .i64 a4), (6, .int .i64 a1), (7, .int .i64 (IntKind.i64.wrap (Int.tmod ((a0.getD a1.toNat zS111).f1) 4)))] (by kernel_rfl) ?_
      refine EW.as' [(0, .slice (some a3) a0.length a2), (3, .slice b3 b0.length b4), (4, .pointer (some ⟨a5, 0, none⟩)), (5, .int .i64 a4), (6, .int .i64 a1), (7, .int .i64 0)] (by simp only [g0]) ?_
      obtain ⟨c5, i2, H⟩ := lt_out H
      obtain ⟨i6, H⟩ := ite_in H
      obtain ⟨d0, j2, H⟩ := lt_out H
      have hS := hS.drew
      refine EW.draw (B := B) (id := 9) (ops := Cd28.r.r.r.r.l.r.l.l.r.l.l.r.r.l.ops) [Ass.box 110 a5 [.int .i64 a6, .int .i64 a7, .int .i64 a8, .int .i64 a9]] [Ro.sl kS111 (some a3) a2 a0] (by kernel_rfl) (by kernel_rfl) ?_
      have hN : Region.noSelect Cd28.r.r.r.r.l.r.l.l.r.l.l.r.r.l.ops = true := (by kernel_rfl)
      have hF : freeAll Cd28.r.r.r.r.l.r.l.l.r.l.l.r.r.l.ops = true := (by kernel_rfl)
      have hC : Core B [Ass.box 110 a5 [.int .i64 a6, .int .i64 a7, .int .i64 a8, .int .i64 a9]] [Ro.sl kS111 (some a3) a2 a0] _ := ⟨_, _, hS⟩
      refine ED.quick hN hF hC [0, 1, 2, 4, 5, 11, 12, 13, 19, 20, 21] [0, 4, 5, 6, 7, 30, 32, 34, 35, 41, 42, 43, 49, 50, 51] 19 [(0, .slice (some a3) a0.length a2), (4, .pointer (some ⟨a5, 0, none⟩)), (5, .int .i64 a4), (6, .int .i64 a1), (7, .int .i64 0), (30, .slice b3 b0.length b4), (32, .pointer (some ⟨a5, 0, none⟩)), (34, .slice (some a3) a0.length a2), (35, .int .i64 a1), (41, .int .i64 0), (42, .slice (some a3) a0.length a2), (43, .int .i64 a1), (49, .int .i64 a4), (50, .slice (some a3) a0.length a2), (51, .int .i64 a1)] #[true, true, true, false, true, true, false, false, false, false, false, true, true, true, false, false, false, false, false, true, true, true, false, false, false, false, false, false, false, false] (by kernel_rfl) (by kernel_rfl) ?_
      refine ED.Y hN hF hC 3 18 #[true, true, true, true, true, true, false, false, false, false, false, true, true, true, false, false, false, false, false, true, true, true, false, false, false, false, false, false, false, false] (by kernel_rfl) (by kernel_rfl) rfl (fun _ _ _ hS => YO.loadBox hS 0 rfl 3 0 1 (.int .i64 a6) 33 (by kernel_rfl) (by kernel_rfl) (by kernel_rfl) (by kernel_rfl)) ?_
      refine ED.Y hN hF hC 6 17 #[true, true, true, true, true, true, true, false, false, false, false, true, true, true, false, false, false, false, false, true, true, true, false, false, false, false, false, false, false, false] (by kernel_rfl) (by kernel_rfl) rfl (fun _ _ _ hS => YO.idx 65 4 a3 a0.length a2 .i64 a1 36 (by kernel_rfl) (by kernel_rfl) (by kernel_rfl) (by kernel_rfl) b2 b1) ?_
      refine ED.Y hN hF hC 7 16 #[true, true, true, true, true, true, true, true, false, false, false, true, true, true, false, false, false, false, false, true, true, true, false, false, false, false, false, false, false, false] (by kernel_rfl) (by kernel_rfl) rfl (fun _ _ _ hS => YO.idxEp hS (Rd.ro 0 rfl) a1 b2 b1 111 4 0 4 1 2 .i64 37 (by kernel_rfl) (by kernel_rfl) (by kernel_rfl) (by kernel_rfl) (by kernel_rfl)) ?_
      refine ED.Y hN hF hC 8 15 #[true, true, true, true, true, true, true, true, true, false, false, true, true, true, false, false, false, false, false, true, true, true, false, false, false, false, false, false, false, false] (by kernel_rfl) (by kernel_rfl) rfl (fun _ _ _ hS => YO.loadEl hS kS111 a3 a2 a0 (Rd.ro 0 rfl) zS111 encS111 encS111_of a1 b2 b1 5 4 2 1 rfl (.int .u8 ((a0.getD a1.toNat zS111).f2)) 38 (by kernel_rfl) (by kernel_rfl) (by kernel_rfl) (by kernel_rfl)) ?_
      refine ED.quick hN hF hC [9, 10] [0, 4, 5, 6, 7, 30, 33, 40, 41, 42, 43, 49, 50, 51] 13 [(0, .slice (some a3) a0.length a2), (4, .pointer (some ⟨a5, 0, none⟩)), (5, .int .i64 a4), (6, .int .i64 a1), (7, .int .i64 0), (30, .slice b3 b0.length b4), (33, .int .i64 a6), (40, .int .i64 (IntKind.i64.wrap (Int.tmod ((a0.getD a1.toNat zS111).f2) 5))), (41, .int .i64 0), (42, .slice (some a3) a0.length a2), (43, .int .i64 a1), (49, .int .i64 a4), (50, .slice (some a3) a0.length a2), (51, .int .i64 a1)] #[true, true, true, true, true, true, true, true, true, true, true, true, true, true, false, false, false, false, false, true, true, true, false, false, false, false, false, false, false, false] (by kernel_rfl) (by kernel_rfl) ?_
      refine ED.Y hN hF hC 14 12 #[true, true, true, true, true, true, true, true, true, true, true, true, true, true, true, false, false, false, false, true, true, true, false, false, false, false, false, false, false, false] (by kernel_rfl) (by kernel_rfl) rfl (fun _ _ _ hS => YO.idx 65 4 a3 a0.length a2 .i64 a1 44 (by kernel_rfl) (by kernel_rfl) (by kernel_rfl) (by kernel_rfl) b2 b1) ?_
      refine ED.Y hN hF hC 15 11 #[true, true, true, true, true, true, true, true, true, true, true, true, true, true, true, true, false, false, false, true, true, true, false, false, false, false, false, false, false, false] (by kernel_rfl) (by kernel_rfl) rfl (fun _ _ _ hS => YO.idxEp hS (Rd.ro 0 rfl) a1 b2 b1 111 4 0 4 1 3 .i64 45 (by kernel_rfl) (by kernel_rfl) (by kernel_rfl) (by kernel_rfl) (by kernel_rfl)) ?_
      refine ED.Y hN hF hC 16 10 #[true, true, true, true, true, true, true, true, true, true, true, true, true, true, true, true, true, false, false, true, true, true, false, false, false, false, false, false, false, false] (by kernel_rfl) (by kernel_rfl) rfl (fun _ _ _ hS => YO.loadEl hS kS111 a3 a2 a0 (Rd.ro 0 rfl) zS111 encS111 encS111_of a1 b2 b1 5 4 3 1 rfl (.int .u8 ((a0.getD a1.toNat zS111).f3)) 46 (by kernel_rfl) (by kernel_rfl) (by kernel_rfl) (by kernel_rfl)) ?_
      refine ED.quick hN hF hC [17, 18] [0, 4, 5, 6, 7, 30, 33, 40, 41, 48, 49, 50, 51] 8 [(0, .slice (some a3) a0.length a2), (4, .pointer (some ⟨a5, 0, none⟩)), (5, .int .i64 a4), (6, .int .i64 a1), (7, .int .i64 0), (30, .slice b3 b0.length b4), (33, .int .i64 a6), (40, .int .i64 (IntKind.i64.wrap (Int.tmod ((a0.getD a1.toNat zS111).f2) 5))), (41, .int .i64 0), (48, .int .i32 (IntKind.i32.wrap ((IntKind.i32.wrap ((a0.getD a1.toNat zS111).f3)) - 128))), (49, .int .i64 a4), (50, .slice (some a3) a0.length a2), (51, .int .i64 a1)] #[true, true, true, true, true, true, true, true, true, true, true, true, true, true, true, true, true, true, true, true, true, true, false, false, false, false, false, false, false, false] (by kernel_rfl) (by kernel_rfl) ?_
      refine ED.Y hN hF hC 22 7 #[true, true, true, true, true, true, true, true, true, true, true, true, true, true, true, true, true, true, true, true, true, true, true, false, false, false, false, false, false, false] (by kernel_rfl) (by kernel_rfl) rfl (fun _ _ _ hS => YO.idx 65 4 a3 a0.length a2 .i64 a1 52 (by kernel_rfl) (by kernel_rfl) (by kernel_rfl) (by kernel_rfl) b2 b1) ?_
      refine ED.Y hN hF hC 23 6 #[true, true, true, true, true, true, true, true, true, true, true, true, true, true, true, true, true, true, true, true, true, true, true, true, false, false, false, false, false, false] (by kernel_rfl) (by kernel_rfl) rfl (fun _ _ _ hS => YO.idxEp hS (Rd.ro 0 rfl) a1 b2 b1 111 4 0 4 1 2 .i64 53 (by kernel_rfl) (by kernel_rfl) (by kernel_rfl) (by kernel_rfl) (by kernel_rfl)) ?_
      refine ED.Y hN hF hC 24 5 #[true, true, true, true, true, true, true, true, true, true, true, true, true, true, true, true, true, true, true, true, true, true, true, true, true, false, false, false, false, false] (by kernel_rfl) (by kernel_rfl) rfl (fun _ _ _ hS => YO.loadEl hS kS111 a3 a2 a0 (Rd.ro 0 rfl) zS111 encS111 encS111_of a1 b2 b1 5 4 2 1 rfl (.int .u8 ((a0.getD a1.toNat zS111).f2)) 54 (by kernel_rfl) (by kernel_rfl) (by kernel_rfl) (by kernel_rfl)) ?_
      refine ED.quick hN hF hC [25, 26] [0, 4, 5, 6, 7, 30, 56] 3 [(0, .slice (some a3) a0.length a2), (4, .pointer (some ⟨a5, 0, none⟩)), (5, .int .i64 a4), (6, .int .i64 a1), (7, .int .i64 0), (30, .slice b3 b0.length b4), (56, .agg #[.int .i64 a6, .int .i64 (IntKind.i64.wrap (Int.tmod ((a0.getD a1.toNat zS111).f2) 5)), .int .i64 0, .int .i32 (IntKind.i32.wrap ((IntKind.i32.wrap ((a0.getD a1.toNat zS111).f3)) - 128)), .int .i64 a4, .int .i32 (IntKind.i32.wrap ((a0.getD a1.toNat zS111).f2))])] #[true, true, true, true, true, true, true, true, true, true, true, true, true, true, true, true, true, true, true, true, true, true, true, true, true, true, true, false, false, false] (by kernel_rfl) (by kernel_rfl) ?_
      refine ED.one 27 2 #[true, true, true, true, true, true, true, true, true, true, true, true, true, true, true, true, true, true, true, true, true, true, true, true, true, true, true, true, false, false] (by kernel_rfl) (by kernel_rfl) (by kernel_rfl) (EO.lit hS kS69 69 64 1 #[(0, .agg #[.int .i64 a6, .int .i64 (IntKind.i64.wrap (Int.tmod ((a0.getD a1.toNat zS111).f2) 5)), .int .i64 0, .int .i32 (IntKind.i32.wrap ((IntKind.i32.wrap ((a0.getD a1.toNat zS111).f3)) - 128)), .int .i64 a4, .int .i32 (IntKind.i32.wrap ((a0.getD a1.toNat zS111).f2))])] [.int .i64 a6, .int .i64 (IntKind.i64.wrap (Int.tmod ((a0.getD a1.toNat zS111).f2) 5)), .int .i64 0, .int .i32 (IntKind.i32.wrap ((IntKind.i32.wrap ((a0.getD a1.toNat zS111).f3)) - 128)), .int .i64 a4, .int .i32 (IntKind.i32.wrap ((a0.getD a1.toNat zS111).f2))] c5 57 (by kernel_rfl) (by kernel_rfl) (by kernel_rfl) (fun _ => (by kernel_rfl)) (by rw [i2]; rfl) (by kernel_rfl) (fun w G hr => (by rw [i2]; exact ⟨[.int .i64 a6, .int .i64 (IntKind.i64.wrap (Int.tmod ((a0.getD a1.toNat zS111).f2) 5)), .int .i64 0, .int .i32 (IntKind.i32.wrap ((IntKind.i32.wrap ((a0.getD a1.toNat zS111).f3)) - 128)), .int .i64 a4, .int .i32 (IntKind.i32.wrap ((a0.getD a1.toNat zS111).f2))], [], rfl, ⟨[.int .i64 a6], [.int .i64 (IntKind.i64.wrap (Int.tmod ((a0.getD a1.toNat zS111).f2) 5)), .int .i64 0, .int .i32 (IntKind.i32.wrap ((IntKind.i32.wrap ((a0.getD a1.toNat zS111).f3)) - 128)), .int .i64 a4, .int .i32 (IntKind.i32.wrap ((a0.getD a1.toNat zS111).f2))], rfl, rfl, ⟨[.int .i64 (IntKind.i64.wrap (Int.tmod ((a0.getD a1.toNat zS111).f2) 5))], [.int .i64 0, .int .i32 (IntKind.i32.wrap ((IntKind.i32.wrap ((a0.getD a1.toNat zS111).f3)) - 128)), .int .i64 a4, .int .i32 (IntKind.i32.wrap ((a0.getD a1.toNat zS111).f2))], rfl, rfl, ⟨[.int .i64 0], [.int .i32 (IntKind.i32.wrap ((IntKind.i32.wrap ((a0.getD a1.toNat zS111).f3)) - 128)), .int .i64 a4, .int .i32 (IntKind.i32.wrap ((a0.getD a1.toNat zS111).f2))], rfl, rfl, ⟨[.int .i32 (IntKind.i32.wrap ((IntKind.i32.wrap ((a0.getD a1.toNat zS111).f3)) - 128))], [.int .i64 a4, .int .i32 (IntKind.i32.wrap ((a0.getD a1.toNat zS111).f2))], rfl, rfl, ⟨[.int .i64 a4], [.int .i32 (IntKind.i32.wrap ((a0.getD a1.toNat zS111).f2))], rfl, rfl, ⟨[.int .i32 (IntKind.i32.wrap ((a0.getD a1.toNat zS111).f2))], [], rfl, rfl, rfl⟩⟩⟩⟩⟩⟩, rfl⟩)) ?_)
      intro f6 w hS
      have hC : Core B [Ass.box 110 a5 [.int .i64 a6, .int .i64 a7, .int .i64 a8, .int .i64 a9]] [Ro.sl kS111 (some a3) a2 a0] _ := ⟨_, _, hS.re [1] [] rfl sub_self⟩
      refine ⟨hC, ?_⟩
      refine ED.one 28 1 #[true, true, true, true, true, true, true, true, true, true, true, true, true, true, true, true, true, true, true, true, true, true, true, true, true, true, true, true, true, false] (by kernel_rfl) (by kernel_rfl) (by kernel_rfl) (EO.append hS 64 64 69 48 2 kS69 b3 b4 b0 rfl (some ⟨f6, 0, none⟩) 1 c5 (Rd.own 0 69 rfl) d0 j2 (fun e3 e7 => Ass.own 69 kS69 (some ⟨f6, 0, none⟩) 1 c5 :: Ass.box 110 a5 [.int .i64 a6, .int .i64 a7, .int .i64 a8, .int .i64 a9] :: Ass.own 69 kS69 e3 e7 d0 :: os) 58 (by kernel_rfl) (by kernel_rfl) (by kernel_rfl) (by kernel_rfl) i6 (fun _ _ => rfl) ?_)
      intro e3 e7 w hS
      have hC : Core B [Ass.box 110 a5 [.int .i64 a6, .int .i64 a7, .int .i64 a8, .int .i64 a9]] [Ro.sl kS111 (some a3) a2 a0] _ := ⟨_, _, hS.re [1] [] rfl sub_self⟩
      refine ⟨hC, ?_⟩
      refine ED.quick hN hF hC [29] [0, 3, 4, 5, 6, 7] 0 [(0, .slice (some a3) a0.length a2), (3, .slice e3 d0.length e7), (4, .pointer (some ⟨a5, 0, none⟩)), (5, .int .i64 a4), (6, .int .i64 a1), (7, .int .i64 0)] #[true, true, true, true, true, true, true, true, true, true, true, true, true, true, true, true, true, true, true, true, true, true, true, true, true, true, true, true, true, true] (by kernel_rfl) (by kernel_rfl) ?_
      refine ED.done (by kernel_rfl) ?_
      refine EQ.to ?_
      refine EQ.keep [0, 3, 4, 5, 6, 7] [(0, .slice (some a3) a0.length a2), (3, .slice e3 d0.length e7), (4, .pointer (some ⟨a5, 0, none⟩)), (5, .int .i64 a4), (6, .int .i64 a1), (7, .int .i64 0)] (by kernel_rfl) ?_
      exact fun a ha => ⟨c5, d0, 0, (some ⟨f6, 0, none⟩), 1, e3, e7, ha, (hS.re [2, 2, 2] [] rfl (sub_cons 0 rfl (sub_tail (sub_self)))), H⟩
     ·rw [if_neg g0] at H
      by_cases g1 : (IntKind.i64.wrap (Int.tmod ((a0.getD a1.toNat zS111).f1) 4)) = 1
      ·rw [if_pos g1] at H
       refine EW.keep [0, 3, 4, 5, 6, 7] [(0, .slice (some a3) a0.length a2), (3, .slice b3 b0.length b4), (4, .pointer (some ⟨a5, 0, none⟩)), (5, .int .i64 a4), (6, .int .i64 a1), (7, .int .i64 (IntKind.i64.wrap (Int.tmod ((a0.getD a1.toNat zS111).f1) 4)))] (by kernel_rfl) ?_
       refine EW.as' [(0, .slice (some a3) a0.length a2), (3, .slice b3 b0.length b4), (4, .pointer (some ⟨a5, 0, none⟩)), (5, .int .i64 a4), (6, .int .i64 a1), (7, .int .i64 1)] (by simp only [g1]) ?_
       obtain ⟨c6, i3, H⟩ := lt_out H
       obtain ⟨i7, H⟩ := ite_in H
       obtain ⟨d1, j3, H⟩ := lt_out H
       have hS := hS.drew
       refine EW.draw (B := B) (id := 9) (ops := Cd28.r.r.r.r.l.r.l.l.r.l.l.r.r.l.ops) [Ass.box 110 a5 [.int .i64 a6, .int .i64 a7, .int .i64 a8, .int .i64 a9]] [Ro.sl kS111 (some a3) a2 a0] (by kernel_rfl) (by kernel_rfl) ?_
       have hN : Region.noSelect Cd28.r.r.r.r.l.r.l.l.r.l.l.r.r.l.ops = true := (by kernel_rfl)
       have hF : freeAll Cd28.r.r.r.r.l.r.l.l.r.l.l.r.r.l.ops = true := (by kernel_rfl)
       have hC : Core B [Ass.box 110 a5 [.int .i64 a6, .int .i64 a7, .int .i64 a8, .int .i64 a9]] [Ro.sl kS111 (some a3) a2 a0] _ := ⟨_, _, hS⟩
       refine ED.quick hN hF hC [0, 1, 2, 4, 5, 11, 12, 13, 19, 20, 21] [0, 4, 5, 6, 7, 30, 32, 34, 35, 41, 42, 43, 49, 50, 51] 19 [(0, .slice (some a3) a0.length a2), (4, .pointer (some ⟨a5, 0, none⟩)), (5, .int .i64 a4), (6, .int .i64 a1), (7, .int .i64 1), (30, .slice b3 b0.length b4), (32, .pointer (some ⟨a5, 1, none⟩)), (34, .slice (some a3) a0.length a2), (35, .int .i64 a1), (41, .int .i64 1), (42, .slice (some a3) a0.length a2), (43, .int .i64 a1), (49, .int .i64 a4), (50, .slice (some a3) a0.length a2), (51, .int .i64 a1)] #[true, true, true, false, true, true, false, false, false, false, false, true, true, true, false, false, false, false, false, true, true, true, false, false, false, false, false, false, false, false] (by kernel_rfl) (by kernel_rfl) ?_
       refine ED.Y hN hF hC 3 18 #[true, true, true, true, true, true, false, false, false, false, false, true, true, true, false, false, false, false, false, true, true, true, false, false, false, false, false, false, false, false] (by kernel_rfl) (by kernel_rfl) rfl (fun _ _ _ hS => YO.loadBox hS 0 rfl 3 1 1 (.int .i64 a7) 33 (by kernel_rfl) (by kernel_rfl) (by kernel_rfl) (by kernel_rfl)) ?_
       refine ED.Y hN hF hC 6 17 #[true, true, true, true, true, true, true, false, false, false, false, true, true, true, false, false, false, false, false, true, true, true, false, false, false, false, false, false, false, false] (by kernel_rfl) (by kernel_rfl) rfl (fun _ _ _ hS => YO.idx 65 4 a3 a0.length a2 .i64 a1 36 (by kernel_rfl) (by kernel_rfl) (by kernel_rfl) (by kernel_rfl) b2 b1) ?_
       refine ED.Y hN hF hC 7 16 #[true, true, true, true, true, true, true, true, false, false, false, true, true, true, false, false, false, false, false, true, true, true, false, false, false, false, false, false, false, false] (by kernel_rfl) (by kernel_rfl) rfl (fun _ _ _ hS => YO.idxEp hS (Rd.ro 0 rfl) a1 b2 b1 111 4 0 4 1 2 .i64 37 (by kernel_rfl) (by kernel_rfl) (by kernel_rfl) (by kernel_rfl) (by kernel_rfl)) ?_
       refine ED.Y hN hF hC 8 15 #[true, true, true, true, true, true, true, true, true, false, false, true, true, true, false, false, false, false, false, true, true, true, false, false, false, false, false, false, false, false] (by kernel_rfl) (by kernel_rfl) rfl (fun _ _ _ hS => YO.loadEl hS kS111 a3 a2 a0 (Rd.ro 0 rfl) zS111 encS111 encS111_of a1 b2 b1 5 4 2 1 rfl (.int .u8 ((a0.getD a1.toNat zS111).f2)) 38 (by kernel_rfl) (by kernel_rfl) (by kernel_rfl) (by kernel_rfl)) ?_
       refine ED.quick hN hF hC [9, 10] [0, 4, 5, 6, 7, 30, 33, 40, 41, 42, 43, 49, 50, 51] 13 [(0, .slice (some a3) a0.length a2), (4, .pointer (some ⟨a5, 0, none⟩)), (5, .int .i64 a4), (6, .int .i64 a1), (7, .int .i64 1), (30, .slice b3 b0.length b4), (33, .int .i64 a7), (40, .int .i64 (IntKind.i64.wrap (Int.tmod ((a0.getD a1.toNat zS111).f2) 5))), (41, .int .i64 1), (42, .slice (some a3) a0.length a2), (43, .int .i64 a1), (49, .int .i64 a4), (50, .slice (some a3) a0.length a2), (51, .int .i64 a1)] #[true, true, true, true, true, true, true, true, true, true, true, true, true, true, false, false, false, false, false, true, true, true, false, false, false, false, false, false, false, false] (by kernel_rfl) (by kernel_rfl) ?_
       refine ED.Y hN hF hC 14 12 #[true, true, true, true, true, true, true, true, true, true, true, true, true, true, true, false, false, false, false, true, true, true, false, false, false, false, false, false, false, false] (by kernel_rfl) (by kernel_rfl) rfl (fun _ _ _ hS => YO.idx 65 4 a3 a0.length a2 .i64 a1 44 (by kernel_rfl) (by kernel_rfl) (by kernel_rfl) (by kernel_rfl) b2 b1) ?_
       refine ED.Y hN hF hC 15 11 #[true, true, true, true, true, true, true, true, true, true, true, true, true, true, true, true, false, false, false, true, true, true, false, false, false, false, false, false, false, false] (by kernel_rfl) (by kernel_rfl) rfl (fun _ _ _ hS => YO.idxEp hS (Rd.ro 0 rfl) a1 b2 b1 111 4 0 4 1 3 .i64 45 (by kernel_rfl) (by kernel_rfl) (by kernel_rfl) (by kernel_rfl) (by kernel_rfl)) ?_
       refine ED.Y hN hF hC 16 10 #[true, true, true, true, true, true, true, true, true, true, true, true, true, true, true, true, true, false, false, true, true, true, false, false, false, false, false, false, false, false] (by kernel_rfl) (by kernel_rfl) rfl (fun _ _ _ hS => YO.loadEl hS kS111 a3 a2 a0 (Rd.ro 0 rfl) zS111 encS111 encS111_of a1 b2 b1 5 4 3 1 rfl (.int .u8 ((a0.getD a1.toNat zS111).f3)) 46 (by kernel_rfl) (by kernel_rfl) (by kernel_rfl) (by kernel_rfl)) ?_
       refine ED.quick hN hF hC [17, 18] [0, 4, 5, 6, 7, 30, 33, 40, 41, 48, 49, 50, 51] 8 [(0, .slice (some a3) a0.length a2), (4, .pointer (some ⟨a5, 0, none⟩)), (5, .int .i64 a4), (6, .int .i64 a1), (7, .int .i64 1), (30, .slice b3 b0.length b4), (33, .int .i64 a7), (40, .int .i64 (IntKind.i64.wrap (Int.tmod ((a0.getD a1.toNat zS111).f2) 5))), (41, .int .i64 1), (48, .int .i32 (IntKind.i32.wrap ((IntKind.i32.wrap ((a0.getD a1.toNat zS111).f3)) - 128))), (49, .int .i64 a4), (50, .slice (some a3) a0.length a2), (51, .int .i64 a1)] #[true, true, true, true, true, true, true, true, true, true, true, true, true, true, true, true, true, true, true, true, true, true, false, false, false, false, false, false, false, false] (by kernel_rfl) (by kernel_rfl) ?_
       refine ED.Y hN hF hC 22 7 #[true, true, true, true, true, true, true, true, true, true, true, true, true, true, true, true, true, true, true, true, true, true, true, false, false, false, false, false, false, false] (by kernel_rfl) (by kernel_rfl) rfl (fun _ _ _ hS => YO.idx 65 4 a3 a0.length a2 .i64 a1 52 (by kernel_rfl) (by kernel_rfl) (by kernel_rfl) (by kernel_rfl) b2 b1) ?_
       refine ED.Y hN hF hC 23 6 #[true, true, true, true, true, true, true, true, true, true, true, true, true, true, true, true, true, true, true, true, true, true, true, true, false, false, false, false, false, false] (by kernel_rfl) (by kernel_rfl) rfl (fun _ _ _ hS => YO.idxEp hS (Rd.ro 0 rfl) a1 b2 b1 111 4 0 4 1 2 .i64 53 (by kernel_rfl) (by kernel_rfl) (by kernel_rfl) (by kernel_rfl) (by kernel_rfl)) ?_
       refine ED.Y hN hF hC 24 5 #[true, true, true, true, true, true, true, true, true, true, true, true, true, true, true, true, true, true, true, true, true, true, true, true, true, false, false, false, false, false] (by kernel_rfl) (by kernel_rfl) rfl (fun _ _ _ hS => YO.loadEl hS kS111 a3 a2 a0 (Rd.ro 0 rfl) zS111 encS111 encS111_of a1 b2 b1 5 4 2 1 rfl (.int .u8 ((a0.getD a1.toNat zS111).f2)) 54 (by kernel_rfl) (by kernel_rfl) (by kernel_rfl) (by kernel_rfl)) ?_
       refine ED.quick hN hF hC [25, 26] [0, 4, 5, 6, 7, 30, 56] 3 [(0, .slice (some a3) a0.length a2), (4, .pointer (some ⟨a5, 0, none⟩)), (5, .int .i64 a4), (6, .int .i64 a1), (7, .int .i64 1), (30, .slice b3 b0.length b4), (56, .agg #[.int .i64 a7, .int .i64 (IntKind.i64.wrap (Int.tmod ((a0.getD a1.toNat zS111).f2) 5)), .int .i64 1, .int .i32 (IntKind.i32.wrap ((IntKind.i32.wrap ((a0.getD a1.toNat zS111).f3)) - 128)), .int .i64 a4, .int .i32 (IntKind.i32.wrap ((a0.getD a1.toNat zS111).f2))])] #[true, true, true, true, true, true, true, true, true, true, true, true, true, true, true, true, true, true, true, true, true, true, true, true, true, true, true, false, false, false] (by kernel_rfl) (by kernel_rfl) ?_
       refine ED.one 27 2 #[true, true, true, true, true, true, true, true, true, true, true, true, true, true, true, true, true, true, true, true, true, true, true, true, true, true, true, true, false, false] (by kernel_rfl) (by kernel_rfl) (by kernel_rfl) (EO.lit hS kS69 69 64 1 #[(0, .agg #[.int .i64 a7, .int .i64 (IntKind.i64.wrap (Int.tmod ((a0.getD a1.toNat zS111).f2) 5)), .int .i64 1, .int .i32 (IntKind.i32.wrap ((IntKind.i32.wrap ((a0.getD a1.toNat zS111).f3)) - 128)), .int .i64 a4, .int .i32 (IntKind.i32.wrap ((a0.getD a1.toNat zS111).f2))])] [.int .i64 a7, .int .i64 (IntKind.i64.wrap (Int.tmod ((a0.getD a1.toNat zS111).f2) 5)), .int .i64 1, .int .i32 (IntKind.i32.wrap ((IntKind.i32.wrap ((a0.getD a1.toNat zS111).f3)) - 128)), .int .i64 a4, .int .i32 (IntKind.i32.wrap ((a0.getD a1.toNat zS111).f2))] c6 57 (by kernel_rfl) (by kernel_rfl) (by kernel_rfl) (fun _ => (by kernel_rfl)) (by rw [i3]; rfl) (by kernel_rfl) (fun w G hr => (by rw [i3]; exact ⟨[.int .i64 a7, .int .i64 (IntKind.i64.wrap (Int.tmod ((a0.getD a1.toNat zS111).f2) 5)), .int .i64 1, .int .i32 (IntKind.i32.wrap ((IntKind.i32.wrap ((a0.getD a1.toNat zS111).f3)) - 128)), .int .i64 a4, .int .i32 (IntKind.i32.wrap ((a0.getD a1.toNat zS111).f2))], [], rfl, ⟨[.int .i64 a7], [.int .i64 (IntKind.i64.wrap (Int.tmod ((a0.getD a1.toNat zS111).f2) 5)), .int .i64 1, .int .i32 (IntKind.i32.wrap ((IntKind.i32.wrap ((a0.getD a1.toNat zS111).f3)) - 128)), .int .i64 a4, .int .i32 (IntKind.i32.wrap ((a0.getD a1.toNat zS111).f2))], rfl, rfl, ⟨[.int .i64 (IntKind.i64.wrap (Int.tmod ((a0.getD a1.toNat zS111).f2) 5))], [.int .i64 1, .int .i32 (IntKind.i32.wrap ((IntKind.i32.wrap ((a0.getD a1.toNat zS111).f3)) - 128)), .int .i64 a4, .int .i32 (IntKind.i32.wrap ((a0.getD a1.toNat zS111).f2))], rfl, rfl, ⟨[.int .i64 1], [.int .i32 (IntKind.i32.wrap ((IntKind.i32.wrap ((a0.getD a1.toNat zS111).f3)) - 128)), .int .i64 a4, .int .i32 (IntKind.i32.wrap ((a0.getD a1.toNat zS111).f2))], rfl, rfl, ⟨[.int .i32 (IntKind.i32.wrap ((IntKind.i32.wrap ((a0.getD a1.toNat zS111).f3)) - 128))], [.int .i64 a4, .int .i32 (IntKind.i32.wrap ((a0.getD a1.toNat zS111).f2))], rfl, rfl, ⟨[.int .i64 a4], [.int .i32 (IntKind.i32.wrap ((a0.getD a1.toNat zS111).f2))], rfl, rfl, ⟨[.int .i32 (IntKind.i32.wrap ((a0.getD a1.toNat zS111).f2))], [], rfl, rfl, rfl⟩⟩⟩⟩⟩⟩, rfl⟩)) ?_)
       intro f7 w hS
       have hC : Core B [Ass.box 110 a5 [.int .i64 a6, .int .i64 a7, .int .i64 a8, .int .i64 a9]] [Ro.sl kS111 (some a3) a2 a0] _ := ⟨_, _, hS.re [1] [] rfl sub_self⟩
       refine ⟨hC, ?_⟩
       refine ED.one 28 1 #[true, true, true, true, true, true, true, true, true, true, true, true, true, true, true, true, true, true, true, true, true, true, true, true, true, true, true, true, true, false] (by kernel_rfl) (by kernel_rfl) (by kernel_rfl) (EO.append hS 64 64 69 48 2 kS69 b3 b4 b0 rfl (some ⟨f7, 0, none⟩) 1 c6 (Rd.own 0 69 rfl) d1 j3 (fun e4 e8 => Ass.own 69 kS69 (some ⟨f7, 0, none⟩) 1 c6 :: Ass.box 110 a5 [.int .i64 a6, .int .i64 a7, .int .i64 a8, .int .i64 a9] :: Ass.own 69 kS69 e4 e8 d1 :: os) 58 (by kernel_rfl) (by kernel_rfl) (by kernel_rfl) (by kernel_rfl) i7 (fun _ _ => rfl) ?_)
       intro e4 e8 w hS
       have hC : Core B [Ass.box 110 a5 [.int .i64 a6, .int .i64 a7, .int .i64 a8, .int .i64 a9]] [Ro.sl kS111 (some a3) a2 a0] _ := ⟨_, _, hS.re [1] [] rfl sub_self⟩
       refine ⟨hC, ?_⟩
       refine ED.quick hN hF hC [29] [0, 3, 4, 5, 6, 7] 0 [(0, .slice (some a3) a0.length a2), (3, .slice e4 d1.length e8), (4, .pointer (some ⟨a5, 0, none⟩)), (5, .int .i64 a4), (6, .int .i64 a1), (7, .int .i64 1)] #[true, true, true, true, true, true, true, true, true, true, true, true, true, true, true, true, true, true, true, true, true, true, true, true, true, true, true, true, true, true] (by kernel_rfl) (by kernel_rfl) ?_
       refine ED.done (by kernel_rfl) ?_
       refine EQ.to ?_
       refine EQ.keep [0, 3, 4, 5, 6, 7] [(0, .slice (some a3) a0.length a2), (3, .slice e4 d1.length e8), (4, .pointer (some ⟨a5, 0, none⟩)), (5, .int .i64 a4), (6, .int .i64 a1), (7, .int .i64 1)] (by kernel_rfl) ?_
       exact fun a ha => ⟨c6, d1, 1, (some ⟨f7, 0, none⟩), 1, e4, e8, ha, (hS.re [2, 2, 2] [] rfl (sub_cons 0 rfl (sub_tail (sub_self)))), H⟩
      ·rw [if_neg g1] at H
       by_cases g2 : (IntKind.i64.wrap (Int.tmod ((a0.getD a1.toNat zS111).f1) 4)) = 2
       ·rw [if_pos g2] at H
        refine EW.keep [0, 3, 4, 5, 6, 7] [(0, .slice (some a3) a0.length a2), (3, .slice b3 b0.length b4), (4, .pointer (some ⟨a5, 0, none⟩)), (5, .int .i64 a4), (6, .int .i64 a1), (7, .int .i64 (IntKind.i64.wrap (Int.tmod ((a0.getD a1.toNat zS111).f1) 4)))] (by kernel_rfl) ?_
        refine EW.as' [(0, .slice (some a3) a0.length a2), (3, .slice b3 b0.length b4), (4, .pointer (some ⟨a5, 0, none⟩)), (5, .int .i64 a4), (6, .int .i64 a1), (7, .int .i64 2)] (by simp only [g2]) ?_
        obtain ⟨c7, i4, H⟩ := lt_out H
        obtain ⟨i8, H⟩ := ite_in H
        obtain ⟨d2, j4, H⟩ := lt_out H
        have hS := hS.drew
        refine EW.draw (B := B) (id := 9) (ops := Cd28.r.r.r.r.l.r.l.l.r.l.l.r.r.l.ops) [Ass.box 110 a5 [.int .i64 a6, .int .i64 a7, .int .i64 a8, .int .i64 a9]] [Ro.sl kS111 (some a3) a2 a0] (by kernel_rfl) (by kernel_rfl) ?_
        have hN : Region.noSelect Cd28.r.r.r.r.l.r.l.l.r.l.l.r.r.l.ops = true := (by kernel_rfl)
        have hF : freeAll Cd28.r.r.r.r.l.r.l.l.r.l.l.r.r.l.ops = true := (by kernel_rfl)
        have hC : Core B [Ass.box 110 a5 [.int .i64 a6, .int .i64 a7, .int .i64 a8, .int .i64 a9]] [Ro.sl kS111 (some a3) a2 a0] _ := ⟨_, _, hS⟩
        refine ED.quick hN hF hC [0, 1, 2, 4, 5, 11, 12, 13, 19, 20, 21] [0, 4, 5, 6, 7, 30, 32, 34, 35, 41, 42, 43, 49, 50, 51] 19 [(0, .slice (some a3) a0.length a2), (4, .pointer (some ⟨a5, 0, none⟩)), (5, .int .i64 a4), (6, .int .i64 a1), (7, .int .i64 2), (30, .slice b3 b0.length b4), (32, .pointer (some ⟨a5, 2, none⟩)), (34, .slice (some a3) a0.length a2), (35, .int .i64 a1), (41, .int .i64 2), (42, .slice (some a3) a0.length a2), (43, .int .i64 a1), (49, .int .i64 a4), (50, .slice (some a3) a0.length a2), (51, .int .i64 a1)] #[true, true, true, false, true, true, false, false, false, false, false, true, true, true, false, false, false, false, false, true, true, true, false, false, false, false, false, false, false, false] (by kernel_rfl) (by kernel_rfl) ?_
        refine ED.Y hN hF hC 3 18 #[true, true, true, true, true, true, false, false, false, false, false, true, true, true, false, false, false, false, false, true, true, true, false, false, false, false, false, false, false, false] (by kernel_rfl) (by kernel_rfl) rfl (fun _ _ _ hS => YO.loadBox hS 0 rfl 3 2 1 (.int .i64 a8) 33 (by kernel_rfl) (by kernel_rfl) (by kernel_rfl) (by kernel_rfl)) ?_
        refine ED.Y hN hF hC 6 17 #[true, true, true, true, true, true, true, false, false, false, false, true, true, true, false, false, false, false, false, true, true, true, false, false, false, false, false, false, false, false] (by kernel_rfl) (by kernel_rfl) rfl (fun _ _ _ hS => YO.idx 65 4 a3 a0.length a2 .i64 a1 36 (by kernel_rfl) (by kernel_rfl) (by kernel_rfl) (by kernel_rfl) b2 b1) ?_
        refine ED.Y hN hF hC 7 16 #[true, true, true, true, true, true, true, true, false, false, false, true, true, true, false, false, false, false, false, true, true, true, false, false, false, false, false, false, false, false] (by kernel_rfl) (by kernel_rfl) rfl (fun _ _ _ hS => YO.idxEp hS (Rd.ro 0 rfl) a1 b2 b1 111 4 0 4 1 2 .i64 37 (by kernel_rfl) (by kernel_rfl) (by kernel_rfl) (by kernel_rfl) (by kernel_rfl)) ?_
        refine ED.Y hN hF hC 8 15 #[true, true, true, true, true, true, true, true, true, false, false, true, true, true, false, false, false, false, false, true, true, true, false, false, false, false, false, false, false, false] (by kernel_rfl) (by kernel_rfl) rfl (fun _ _ _ hS => YO.loadEl hS kS111 a3 a2 a0 (Rd.ro 0 rfl) zS111 encS111 encS111_of a1 b2 b1 5 4 2 1 rfl (.int .u8 ((a0.getD a1.toNat zS111).f2)) 38 (by kernel_rfl) (by kernel_rfl) (by kernel_rfl) (by kernel_rfl)) ?_
        refine ED.quick hN hF hC [9, 10] [0, 4, 5, 6, 7, 30, 33, 40, 41, 42, 43, 49, 50, 51] 13 [(0, .slice (some a3) a0.length a2), (4, .pointer (some ⟨a5, 0, none⟩)), (5, .int .i64 a4), (6, .int .i64 a1), (7, .int .i64 2), (30, .slice b3 b0.length b4), (33, .int .i64 a8), (40, .int .i64 (IntKind.i64.wrap (Int.tmod ((a0.getD a1.toNat zS111).f2) 5))), (41, .int .i64 2), (42, .slice (some a3) a0.length a2), (43, .int .i64 a1), (49, .int .i64 a4), (50, .slice (some a3) a0.length a2), (51, .int .i64 a1)] #[true, true, true, true, true, true, true, true, true, true, true, true, true, true, false, false, false, false, false, true, true, true, false, false, false, false, false, false, false, false] (by kernel_rfl) (by kernel_rfl) ?_
        refine ED.Y hN hF hC 14 12 #[true, true, true, true, true, true, true, true, true, true, true, true, true, true, true, false, false, false, false, true, true, true, false, false, false, false, false, false, false, false] (by kernel_rfl) (by kernel_rfl) rfl (fun _ _ _ hS => YO.idx 65 4 a3 a0.length a2 .i64 a1 44 (by kernel_rfl) (by kernel_rfl) (by kernel_rfl) (by kernel_rfl) b2 b1) ?_
        refine ED.Y hN hF hC 15 11 #[true, true, true, true, true, true, true, true, true, true, true, true, true, true, true, true, false, false, false, true, true, true, false, false, false, false, false, false, false, false] (by kernel_rfl) (by kernel_rfl) rfl (fun _ _ _ hS => YO.idxEp hS (Rd.ro 0 rfl) a1 b2 b1 111 4 0 4 1 3 .i64 45 (by kernel_rfl) (by kernel_rfl) (by kernel_rfl) (by kernel_rfl) (by kernel_rfl)) ?_
        refine ED.Y hN hF hC 16 10 #[true, true, true, true, true, true, true, true, true, true, true, true, true, true, true, true, true, false, false, true, true, true, false, false, false, false, false, false, false, false] (by kernel_rfl) (by kernel_rfl) rfl (fun _ _ _ hS => YO.loadEl hS kS111 a3 a2 a0 (Rd.ro 0 rfl) zS111 encS111 encS111_of a1 b2 b1 5 4 3 1 rfl (.int .u8 ((a0.getD a1.toNat zS111).f3)) 46 (by kernel_rfl) (by kernel_rfl) (by kernel_rfl) (by kernel_rfl)) ?_
        refine ED.quick hN hF hC [17, 18] [0, 4, 5, 6, 7, 30, 33, 40, 41, 48, 49, 50, 51] 8 [(0, .slice (some a3) a0.length a2), (4, .pointer (some ⟨a5, 0, none⟩)), (5, .int .i64 a4), (6, .int .i64 a1), (7, .int .i64 2), (30, .slice b3 b0.length b4), (33, .int .i64 a8), (40, .int .i64 (IntKind.i64.wrap (Int.tmod ((a0.getD a1.toNat zS111).f2) 5))), (41, .int .i64 2), (48, .int .i32 (IntKind.i32.wrap ((IntKind.i32.wrap ((a0.getD a1.toNat zS111).f3)) - 128))), (49, .int .i64 a4), (50, .slice (some a3) a0.length a2), (51, .int .i64 a1)] #[true, true, true, true, true, true, true, true, true, true, true, true, true, true, true, true, true, true, true, true, true, true, false, false, false, false, false, false, false, false] (by kernel_rfl) (by kernel_rfl) ?_
        refine ED.Y hN hF hC 22 7 #[true, true, true, true, true, true, true, true, true, true, true, true, true, true, true, true, true, true, true, true, true, true, true, false, false, false, false, false, false, false] (by kernel_rfl) (by kernel_rfl) rfl (fun _ _ _ hS => YO.idx 65 4 a3 a0.length a2 .i64 a1 52 (by kernel_rfl) (by kernel_rfl) (by kernel_rfl) (by kernel_rfl) b2 b1) ?_
        refine ED.Y hN hF hC 23 6 #[true, true, true, true, true, true, true, true, true, true, true, true, true, true, true, true, true, true, true, true, true, true, true, true, false, false, false, false, false, false] (by kernel_rfl) (by kernel_rfl) rfl (fun _ _ _ hS => YO.idxEp hS (Rd.ro 0 rfl) a1 b2 b1 111 4 0 4 1 2 .i64 53 (by kernel_rfl) (by kernel_rfl) (by kernel_rfl) (by kernel_rfl) (by kernel_rfl)) ?_
        refine ED.Y hN hF hC 24 5 #[true, true, true, true, true, true, true, true, true, true, true, true, true, true, true, true, true, true, true, true, true, true, true, true, true, false, false, false, false, false] (by kernel_rfl) (by kernel_rfl) rfl (fun _ _ _ hS => YO.loadEl hS kS111 a3 a2 a0 (Rd.ro 0 rfl) zS111 encS111 encS111_of a1 b2 b1 5 4 2 1 rfl (.int .u8 ((a0.getD a1.toNat zS111).f2)) 54 (by kernel_rfl) (by kernel_rfl) (by kernel_rfl) (by kernel_rfl)) ?_
        refine ED.quick hN hF hC [25, 26] [0, 4, 5, 6, 7, 30, 56] 3 [(0, .slice (some a3) a0.length a2), (4, .pointer (some ⟨a5, 0, none⟩)), (5, .int .i64 a4), (6, .int .i64 a1), (7, .int .i64 2), (30, .slice b3 b0.length b4), (56, .agg #[.int .i64 a8, .int .i64 (IntKind.i64.wrap (Int.tmod ((a0.getD a1.toNat zS111).f2) 5)), .int .i64 2, .int .i32 (IntKind.i32.wrap ((IntKind.i32.wrap ((a0.getD a1.toNat zS111).f3)) - 128)), .int .i64 a4, .int .i32 (IntKind.i32.wrap ((a0.getD a1.toNat zS111).f2))])] #[true, true, true, true, true, true, true, true, true, true, true, true, true, true, true, true, true, true, true, true, true, true, true, true, true, true, true, false, false, false] (by kernel_rfl) (by kernel_rfl) ?_
        refine ED.one 27 2 #[true, true, true, true, true, true, true, true, true, true, true, true, true, true, true, true, true, true, true, true, true, true, true, true, true, true, true, true, false, false] (by kernel_rfl) (by kernel_rfl) (by kernel_rfl) (EO.lit hS kS69 69 64 1 #[(0, .agg #[.int .i64 a8, .int .i64 (IntKind.i64.wrap (Int.tmod ((a0.getD a1.toNat zS111).f2) 5)), .int .i64 2, .int .i32 (IntKind.i32.wrap ((IntKind.i32.wrap ((a0.getD a1.toNat zS111).f3)) - 128)), .int .i64 a4, .int .i32 (IntKind.i32.wrap ((a0.getD a1.toNat zS111).f2))])] [.int .i64 a8, .int .i64 (IntKind.i64.wrap (Int.tmod ((a0.getD a1.toNat zS111).f2) 5)), .int .i64 2, .int .i32 (IntKind.i32.wrap ((IntKind.i32.wrap ((a0.getD a1.toNat zS111).f3)) - 128)), .int .i64 a4, .int .i32 (IntKind.i32.wrap ((a0.getD a1.toNat zS111).f2))] c7 57 (by kernel_rfl) (by kernel_rfl) (by kernel_rfl) (fun _ => (by kernel_rfl)) (by rw [i4]; rfl) (by kernel_rfl) (fun w G hr => (by rw [i4]; exact ⟨[.int .i64 a8, .int .i64 (IntKind.i64.wrap (Int.tmod ((a0.getD a1.toNat zS111).f2) 5)), .int .i64 2, .int .i32 (IntKind.i32.wrap ((IntKind.i32.wrap ((a0.getD a1.toNat zS111).f3)) - 128)), .int .i64 a4, .int .i32 (IntKind.i32.wrap ((a0.getD a1.toNat zS111).f2))], [], rfl, ⟨[.int .i64 a8], [.int .i64 (IntKind.i64.wrap (Int.tmod ((a0.getD a1.toNat zS111).f2) 5)), .int .i64 2, .int .i32 (IntKind.i32.wrap ((IntKind.i32.wrap ((a0.getD a1.toNat zS111).f3)) - 128)), .int .i64 a4, .int .i32 (IntKind.i32.wrap ((a0.getD a1.toNat zS111).f2))], rfl, rfl, ⟨[.int .i64 (IntKind.i64.wrap (Int.tmod ((a0.getD a1.toNat zS111).f2) 5))], [.int .i64 2, .int .i32 (IntKind.i32.wrap ((IntKind.i32.wrap ((a0.getD a1.toNat zS111).f3)) - 128)), .int .i64 a4, .int .i32 (IntKind.i32.wrap ((a0.getD a1.toNat zS111).f2))], rfl, rfl, ⟨[.int .i64 2], [.int .i32 (IntKind.i32.wrap ((IntKind.i32.wrap ((a0.getD a1.toNat zS111).f3)) - 128)), .int .i64 a4, .int .i32 (IntKind.i32.wrap ((a0.getD a1.toNat zS111).f2))], rfl, rfl, ⟨[.int .i32 (IntKind.i32.wrap ((IntKind.i32.wrap ((a0.getD a1.toNat zS111).f3)) - 128))], [.int .i64 a4, .int .i32 (IntKind.i32.wrap ((a0.getD a1.toNat zS111).f2))], rfl, rfl, ⟨[.int .i64 a4], [.int .i32 (IntKind.i32.wrap ((a0.getD a1.toNat zS111).f2))], rfl, rfl, ⟨[.int .i32 (IntKind.i32.wrap ((a0.getD a1.toNat zS111).f2))], [], rfl, rfl, rfl⟩⟩⟩⟩⟩⟩, rfl⟩)) ?_)
        intro f8 w hS
        have hC : Core B [Ass.box 110 a5 [.int .i64 a6, .int .i64 a7, .int .i64 a8, .int .i64 a9]] [Ro.sl kS111 (some a3) a2 a0] _ := ⟨_, _, hS.re [1] [] rfl sub_self⟩
        refine ⟨hC, ?_⟩
        refine ED.one 28 1 #[true, true, true, true, true, true, true, true, true, true, true, true, true, true, true, true, true, true, true, true, true, true, true, true, true, true, true, true, true, false] (by kernel_rfl) (by kernel_rfl) (by kernel_rfl) (EO.append hS 64 64 69 48 2 kS69 b3 b4 b0 rfl (some ⟨f8, 0, none⟩) 1 c7 (Rd.own 0 69 rfl) d2 j4 (fun e5 e9 => Ass.own 69 kS69 (some ⟨f8, 0, none⟩) 1 c7 :: Ass.box 110 a5 [.int .i64 a6, .int .i64 a7, .int .i64 a8, .int .i64 a9] :: Ass.own 69 kS69 e5 e9 d2 :: os) 58 (by kernel_rfl) (by kernel_rfl) (by kernel_rfl) (by kernel_rfl) i8 (fun _ _ => rfl) ?_)
        intro e5 e9 w hS
        have hC : Core B [Ass.box 110 a5 [.int .i64 a6, .int .i64 a7, .int .i64 a8, .int .i64 a9]] [Ro.sl kS111 (some a3) a2 a0] _ := ⟨_, _, hS.re [1] [] rfl sub_self⟩
        refine ⟨hC, ?_⟩
        refine ED.quick hN hF hC [29] [0, 3, 4, 5, 6, 7] 0 [(0, .slice (some a3) a0.length a2), (3, .slice e5 d2.length e9), (4, .pointer (some ⟨a5, 0, none⟩)), (5, .int .i64 a4), (6, .int .i64 a1), (7, .int .i64 2)] #[true, true, true, true, true, true, true, true, true, true, true, true, true, true, true, true, true, true, true, true, true, true, true, true, true, true, true, true, true, true] (by kernel_rfl) (by kernel_rfl) ?_
        refine ED.done (by kernel_rfl) ?_
        refine EQ.to ?_
        refine EQ.keep [0, 3, 4, 5, 6, 7] [(0, .slice (some a3) a0.length a2), (3, .slice e5 d2.length e9), (4, .pointer (some ⟨a5, 0, none⟩)), (5, .int .i64 a4), (6, .int .i64 a1), (7, .int .i64 2)] (by kernel_rfl) ?_
        exact fun a ha => ⟨c7, d2, 2, (some ⟨f8, 0, none⟩), 1, e5, e9, ha, (hS.re [2, 2, 2] [] rfl (sub_cons 0 rfl (sub_tail (sub_self)))), H⟩
       ·rw [if_neg g2] at H
        by_cases g3 : (IntKind.i64.wrap (Int.tmod ((a0.getD a1.toNat zS111).f1) 4)) = 3
        ·rw [if_pos g3] at H
         refine EW.keep [0, 3, 4, 5, 6, 7] [(0, .slice (some a3) a0.length a2), (3, .slice b3 b0.length b4), (4, .pointer (some ⟨a5, 0, none⟩)), (5, .int .i64 a4), (6, .int .i64 a1), (7, .int .i64 (IntKind.i64.wrap (Int.tmod ((a0.getD a1.toNat zS111).f1) 4)))] (by kernel_rfl) ?_
         refine EW.as' [(0, .slice (some a3) a0.length a2), (3, .slice b3 b0.length b4), (4, .pointer (some ⟨a5, 0, none⟩)), (5, .int .i64 a4), (6, .int .i64 a1), (7, .int .i64 3)] (by simp only [g3]) ?_
         obtain ⟨c8, i5, H⟩ := lt_out H
         obtain ⟨i9, H⟩ := ite_in H
         obtain ⟨d3, j5, H⟩ := lt_out H
         have hS := hS.drew
         refine EW.draw (B := B) (id := 9) (ops := Cd28.r.r.r.r.l.r.l.l.r.l.l.r.r.l.ops) [Ass.box 110 a5 [.int .i64 a6, .int .i64 a7, .int .i64 a8, .int .i64 a9]] [Ro.sl kS111 (some a3) a2 a0] (by kernel_rfl) (by kernel_rfl) ?_
         have hN : Region.noSelect Cd28.r.r.r.r.l.r.l.l.r.l.l.r.r.l.ops = true := (by kernel_rfl)
         have hF : freeAll Cd28.r.r.r.r.l.r.l.l.r.l.l.r.r.l.ops = true := (by kernel_rfl)
         have hC : Core B [Ass.box 110 a5 [.int .i64 a6, .int .i64 a7, .int .i64 a8, .int .i64 a9]] [Ro.sl kS111 (some a3) a2 a0] _ := ⟨_, _, hS⟩
         refine ED.quick hN hF hC [0, 1, 2, 4, 5, 11, 12, 13, 19, 20, 21] [0, 4, 5, 6, 7, 30, 32, 34, 35, 41, 42, 43, 49, 50, 51] 19 [(0, .slice (some a3) a0.length a2), (4, .pointer (some ⟨a5, 0, none⟩)), (5, .int .i64 a4), (6, .int .i64 a1), (7, .int .i64 3), (30, .slice b3 b0.length b4), (32, .pointer (some ⟨a5, 3, none⟩)), (34, .slice (some a3) a0.length a2), (35, .int .i64 a1), (41, .int .i64 3), (42, .slice (some a3) a0.length a2), (43, .int .i64 a1), (49, .int .i64 a4), (50, .slice (some a3) a0.length a2), (51, .int .i64 a1)] #[true, true, true, false, true, true, false, false, false, false, false, true, true, true, false, false, false, false, false, true, true, true, false, false, false, false, false, false, false, false] (by kernel_rfl) (by kernel_rfl) ?_
         refine ED.Y hN hF hC 3 18 #[true, true, true, true, true, true, false, false, false, false, false, true, true, true, false, false, false, false, false, true, true, true, false, false, false, false, false, false, false, false] (by kernel_rfl) (by kernel_rfl) rfl (fun _ _ _ hS => YO.loadBox hS 0 rfl 3 3 1 (.int .i64 a9) 33 (by kernel_rfl) (by kernel_rfl) (by kernel_rfl) (by kernel_rfl)) ?_
         refine ED.Y hN hF hC 6 17 #[true, true, true, true, true, true, true, false, false, false, false, true, true, true, false, false, false, false, false, true, true, true, false, false, false, false, false, false, false, false] (by kernel_rfl) (by kernel_rfl) rfl (fun _ _ _ hS => YO.idx 65 4 a3 a0.length a2 .i64 a1 36 (by kernel_rfl) (by kernel_rfl) (by kernel_rfl) (by kernel_rfl) b2 b1) ?_
         refine ED.Y hN hF hC 7 16 #[true, true, true, true, true, true, true, true, false, false, false, true, true, true, false, false, false, false, false, true, true, true, false, false, false, false, false, false, false, false] (by kernel_rfl) (by kernel_rfl) rfl (fun _ _ _ hS => YO.idxEp hS (Rd.ro 0 rfl) a1 b2 b1 111 4 0 4 1 2 .i64 37 (by kernel_rfl) (by kernel_rfl) (by kernel_rfl) (by kernel_rfl) (by kernel_rfl)) ?_
         refine ED.Y hN hF hC 8 15 #[true, true, true, true, true, true, true, true, true, false, false, true, true, true, false, false, false, false, false, true, true, true, false, false, false, false, false, false, false, false] (by kernel_rfl) (by kernel_rfl) rfl (fun _ _ _ hS => YO.loadEl hS kS111 a3 a2 a0 (Rd.ro 0 rfl) zS111 encS111 encS111_of a1 b2 b1 5 4 2 1 rfl (.int .u8 ((a0.getD a1.toNat zS111).f2)) 38 (by kernel_rfl) (by kernel_rfl) (by kernel_rfl) (by kernel_rfl)) ?_
         refine ED.quick hN hF hC [9, 10] [0, 4, 5, 6, 7, 30, 33, 40, 41, 42, 43, 49, 50, 51] 13 [(0, .slice (some a3) a0.length a2), (4, .pointer (some ⟨a5, 0, none⟩)), (5, .int .i64 a4), (6, .int .i64 a1), (7, .int .i64 3), (30, .slice b3 b0.length b4), (33, .int .i64 a9), (40, .int .i64 (IntKind.i64.wrap (Int.tmod ((a0.getD a1.toNat zS111).f2) 5))), (41, .int .i64 3), (42, .slice (some a3) a0.length a2), (43, .int .i64 a1), (49, .int .i64 a4), (50, .slice (some a3) a0.length a2), (51, .int .i64 a1)] #[true, true, true, true, true, true, true, true, true, true, true, true, true, true, false, false, false, false, false, true, true, true, false, false, false, false, false, false, false, false] (by kernel_rfl) (by kernel_rfl) ?_
         refine ED.Y hN hF hC 14 12 #[true, true, true, true, true, true, true, true, true, true, true, true, true, true, true, false, false, false, false, true, true, true, false, false, false, false, false, false, false, false] (by kernel_rfl) (by kernel_rfl) rfl (fun _ _ _ hS => YO.idx 65 4 a3 a0.length a2 .i64 a1 44 (by kernel_rfl) (by kernel_rfl) (by kernel_rfl) (by kernel_rfl) b2 b1) ?_
         refine ED.Y hN hF hC 15 11 #[true, true, true, true, true, true, true, true, true, true, true, true, true, true, true, true, false, false, false, true, true, true, false, false, false, false, false, false, false, false] (by kernel_rfl) (by kernel_rfl) rfl (fun _ _ _ hS => YO.idxEp hS (Rd.ro 0 rfl) a1 b2 b1 111 4 0 4 1 3 .i64 45 (by kernel_rfl) (by kernel_rfl) (by kernel_rfl) (by kernel_rfl) (by kernel_rfl)) ?_
         refine ED.Y hN hF hC 16 10 #[true, true, true, true, true, true, true, true, true, true, true, true, true, true, true, true, true, false, false, true, true, true, false, false, false, false, false, false, false, false] (by kernel_rfl) (by kernel_rfl) rfl (fun _ _ _ hS => YO.loadEl hS kS111 a3 a2 a0 (Rd.ro 0 rfl) zS111 encS111 encS111_of a1 b2 b1 5 4 3 1 rfl (.int .u8 ((a0.getD a1.toNat zS111).f3)) 46 (by kernel_rfl) (by kernel_rfl) (by kernel_rfl) (by kernel_rfl)) ?_
         refine ED.quick hN hF hC [17, 18] [0, 4, 5, 6, 7, 30, 33, 40, 41, 48, 49, 50, 51] 8 [(0, .slice (some a3) a0.length a2), (4, .pointer (some ⟨a5, 0, none⟩)), (5, .int .i64 a4), (6, .int .i64 a1), (7, .int .i64 3), (30, .slice b3 b0.length b4), (33, .int .i64 a9), (40, .int .i64 (IntKind.i64.wrap (Int.tmod ((a0.getD a1.toNat zS111).f2) 5))), (41, .int .i64 3), (48, .int .i32 (IntKind.i32.wrap ((IntKind.i32.wrap ((a0.getD a1.toNat zS111).f3)) - 128))), (49, .int .i64 a4), (50, .slice (some a3) a0.length a2), (51, .int .i64 a1)] #[true, true, true, true, true, true, true, true, true, true, true, true, true, true, true, true, true, true, true, true, true, true, false, false, false, false, false, false, false, false] (by kernel_rfl) (by kernel_rfl) ?_
         refine ED.Y hN hF hC 22 7 #[true, true, true, true, true, true, true, true, true, true, true, true, true, true, true, true, true, true, true, true, true, true, true, false, false, false, false, false, false, false] (by kernel_rfl) (by kernel_rfl) rfl (fun _ _ _ hS => YO.idx 65 4 a3 a0.length a2 .i64 a1 52 (by kernel_rfl) (by kernel_rfl) (by kernel_rfl) (by kernel_rfl) b2 b1) ?_
         refine ED.Y hN hF hC 23 6 #[true, true, true, true, true, true, true, true, true, true, true, true, true, true, true, true, true, true, true, true, true, true, true, true, false, false, false, false, false, false] (by kernel_rfl) (by kernel_rfl) rfl (fun _ _ _ hS => YO.idxEp hS (Rd.ro 0 rfl) a1 b2 b1 111 4 0 4 1 2 .i64 53 (by kernel_rfl) (by kernel_rfl) (by kernel_rfl) (by kernel_rfl) (by kernel_rfl)) ?_
         refine ED.Y hN hF hC 24 5 #[true, true, true, true, true, true, true, true, true, true, true, true, true, true, true, true, true, true, true, true, true, true, true, true, true, false, false, false, false, false] (by kernel_rfl) (by kernel_rfl) rfl (fun _ _ _ hS => YO.loadEl hS kS111 a3 a2 a0 (Rd.ro 0 rfl) zS111 encS111 encS111_of a1 b2 b1 5 4 2 1 rfl (.int .u8 ((a0.getD a1.toNat zS111).f2)) 54 (by kernel_rfl) (by kernel_rfl) (by kernel_rfl) (by kernel_rfl)) ?_
         refine ED.quick hN hF hC [25, 26] [0, 4, 5, 6, 7, 30, 56] 3 [(0, .slice (some a3) a0.length a2), (4, .pointer (some ⟨a5, 0, none⟩)), (5, .int .i64 a4), (6, .int .i64 a1), (7, .int .i64 3), (30, .slice b3 b0.length b4), (56, .agg #[.int .i64 a9, .int .i64 (IntKind.i64.wrap (Int.tmod ((a0.getD a1.toNat zS111).f2) 5)), .int .i64 3, .int .i32 (IntKind.i32.wrap ((IntKind.i32.wrap ((a0.getD a1.toNat zS111).f3)) - 128)), .int .i64 a4, .int .i32 (IntKind.i32.wrap ((a0.getD a1.toNat zS111).f2))])] #[true, true, true, true, true, true, true, true, true, true, true, true, true, true, true, true, true, true, true, true, true, true, true, true, true, true, true, false, false, false] (by kernel_rfl) (by kernel_rfl) ?_
         refine ED.one 27 2 #[true, true, true, true, true, true, true, true, true, true, true, true, true, true, true, true, true, true, true, true, true, true, true, true, true, true, true, true, false, false] (by kernel_rfl) (by kernel_rfl) (by kernel_rfl) (EO.lit hS kS69 69 64 1 #[(0, .agg #[.int .i64 a9, .int .i64 (IntKind.i64.wrap (Int.tmod ((a0.getD a1.toNat zS111).f2) 5)), .int .i64 3, .int .i32 (IntKind.i32.wrap ((IntKind.i32.wrap ((a0.getD a1.toNat zS111).f3)) - 128)), .int .i64 a4, .int .i32 (IntKind.i32.wrap ((a0.getD a1.toNat zS111).f2))])] [.int .i64 a9, .int .i64 (IntKind.i64.wrap (Int.tmod ((a0.getD a1.toNat zS111).f2) 5)), .int .i64 3, .int .i32 (IntKind.i32.wrap ((IntKind.i32.wrap ((a0.getD a1.toNat zS111).f3)) - 128)), .int .i64 a4, .int .i32 (IntKind.i32.wrap ((a0.getD a1.toNat zS111).f2))] c8 57 (by kernel_rfl) (by kernel_rfl) (by kernel_rfl) (fun _ => (by kernel_rfl)) (by rw [i5]; rfl) (by kernel_rfl) (fun w G hr => (by rw [i5]; exact ⟨[.int .i64 a9, .int .i64 (IntKind.i64.wrap (Int.tmod ((a0.getD a1.toNat zS111).f2) 5)), .int .i64 3, .int .i32 (IntKind.i32.wrap ((IntKind.i32.wrap ((a0.getD a1.toNat zS111).f3)) - 128)), .int .i64 a4, .int .i32 (IntKind.i32.wrap ((a0.getD a1.toNat zS111).f2))], [], rfl, ⟨[.int .i64 a9], [.int .i64 (IntKind.i64.wrap (Int.tmod ((a0.getD a1.toNat zS111).f2) 5)), .int .i64 3, .int .i32 (IntKind.i32.wrap ((IntKind.i32.wrap ((a0.getD a1.toNat zS111).f3)) - 128)), .int .i64 a4, .int .i32 (IntKind.i32.wrap ((a0.getD a1.toNat zS111).f2))], rfl, rfl, ⟨[.int .i64 (IntKind.i64.wrap (Int.tmod ((a0.getD a1.toNat zS111).f2) 5))], [.int .i64 3, .int .i32 (IntKind.i32.wrap ((IntKind.i32.wrap ((a0.getD a1.toNat zS111).f3)) - 128)), .int .i64 a4, .int .i32 (IntKind.i32.wrap ((a0.getD a1.toNat zS111).f2))], rfl, rfl, ⟨[.int .i64 3], [.int .i32 (IntKind.i32.wrap ((IntKind.i32.wrap ((a0.getD a1.toNat zS111).f3)) - 128)), .int .i64 a4, .int .i32 (IntKind.i32.wrap ((a0.getD a1.toNat zS111).f2))], rfl, rfl, ⟨[.int .i32 (IntKind.i32.wrap ((IntKind.i32.wrap ((a0.getD a1.toNat zS111).f3)) - 128))], [.int .i64 a4, .int .i32 (IntKind.i32.wrap ((a0.getD a1.toNat zS111).f2))], rfl, rfl, ⟨[.int .i64 a4], [.int .i32 (IntKind.i32.wrap ((a0.getD a1.toNat zS111).f2))], rfl, rfl, ⟨[.int .i32 (IntKind.i32.wrap ((a0.getD a1.toNat zS111).f2))], [], rfl, rfl, rfl⟩⟩⟩⟩⟩⟩, rfl⟩)) ?_)
         intro f9 w hS
         have hC : Core B [Ass.box 110 a5 [.int .i64 a6, .int .i64 a7, .int .i64 a8, .int .i64 a9]] [Ro.sl kS111 (some a3) a2 a0] _ := ⟨_, _, hS.re [1] [] rfl sub_self⟩
         refine ⟨hC, ?_⟩
         refine ED.one 28 1 #[true, true, true, true, true, true, true, true, true, true, true, true, true, true, true, true, true, true, true, true, true, true, true, true, true, true, true, true, true, false] (by kernel_rfl) (by kernel_rfl) (by kernel_rfl) (EO.append hS 64 64 69 48 2 kS69 b3 b4 b0 rfl (some ⟨f9, 0, none⟩) 1 c8 (Rd.own 0 69 rfl) d3 j5 (fun e6 f4 => Ass.own 69 kS69 (some ⟨f9, 0, none⟩) 1 c8 :: Ass.box 110 a5 [.int .i64 a6, .int .i64 a7, .int .i64 a8, .int .i64 a9] :: Ass.own 69 kS69 e6 f4 d3 :: os) 58 (by kernel_rfl) (by kernel_rfl) (by kernel_rfl) (by kernel_rfl) i9 (fun _ _ => rfl) ?_)
         intro e6 f4 w hS
         have hC : Core B [Ass.box 110 a5 [.int .i64 a6, .int .i64 a7, .int .i64 a8, .int .i64 a9]] [Ro.sl kS111 (some a3) a2 a0] _ := ⟨_, _, hS.re [1] [] rfl sub_self⟩
         refine ⟨hC, ?_⟩
         refine ED.quick hN hF hC [29] [0, 3, 4, 5, 6, 7] 0 [(0, .slice (some a3) a0.length a2), (3, .slice e6 d3.length f4), (4, .pointer (some ⟨a5, 0, none⟩)), (5, .int .i64 a4), (6, .int .i64 a1), (7, .int .i64 3)] #[true, true, true, true, true, true, true, true, true, true, true, true, true, true, true, true, true, true, true, true, true, true, true, true, true, true, true, true, true, true] (by kernel_rfl) (by kernel_rfl) ?_
         refine ED.done (by kernel_rfl) ?_
         refine EQ.to ?_
         refine EQ.keep [0, 3, 4, 5, 6, 7] [(0, .slice (some a3) a0.length a2), (3, .slice e6 d3.length f4), (4, .pointer (some ⟨a5, 0, none⟩)), (5, .int .i64 a4), (6, .int .i64 a1), (7, .int .i64 3)] (by kernel_rfl) ?_
         exact fun a ha => ⟨c8, d3, 3, (some ⟨f9, 0, none⟩), 1, e6, f4, ha, (hS.re [2, 2, 2] [] rfl (sub_cons 0 rfl (sub_tail (sub_self)))), H⟩
        ·rw [if_neg g3] at H
         cases H
    ·obtain ⟨c0, b5, b9, c1, c2, b6, b7, ha, hS, H⟩ := hI
     rw [j1] at H
     (try dsimp only at H)
     refine EW.at ?_ a ha
     clear ha a
     refine EW.region (id := 10) (ops := Cd28.r.r.r.r.l.r.l.l.r.l.l.r.r.r.ops) (by kernel_rfl) ?_
     refine EL.quick 1 [0, 3, 4, 5, 6, 59] [(0, .slice (some a3) a0.length a2), (3, .slice b6 b5.length b7), (4, .pointer (some ⟨a5, 0, none⟩)), (5, .int .i64 a4), (6, .int .i64 a1), (59, .int .i64 b9)] (by kernel_rfl) ?_
     by_cases g4 : b9 = 0
     ·rw [if_pos g4] at H
      refine EL.keep [0, 3, 4, 5, 6, 59] [(0, .slice (some a3) a0.length a2), (3, .slice b6 b5.length b7), (4, .pointer (some ⟨a5, 0, none⟩)), (5, .int .i64 a4), (6, .int .i64 a1), (59, .int .i64 b9)] (by kernel_rfl) ?_
      refine EL.as' [(0, .slice (some a3) a0.length a2), (3, .slice b6 b5.length b7), (4, .pointer (some ⟨a5, 0, none⟩)), (5, .int .i64 a4), (6, .int .i64 a1), (59, .int .i64 0)] (by simp only [g4]) ?_
      refine EL.quick 1 [0, 3, 4, 5, 6, 59, 60] [(0, .slice (some a3) a0.length a2), (3, .slice b6 b5.length b7), (4, .pointer (some ⟨a5, 0, none⟩)), (5, .int .i64 a4), (6, .int .i64 a1), (59, .int .i64 0), (60, .pointer (some ⟨a5, 0, none⟩))] (by kernel_rfl) ?_
      refine EL.of (EO.Y (YO.loadBox hS 1 rfl 3 0 1 (.int .i64 a6) 61 (by kernel_rfl) (by kernel_rfl) (by kernel_rfl) (by kernel_rfl)) ?_)
      refine EL.quick 2 [0, 3, 4, 5, 6, 62, 63] [(0, .slice (some a3) a0.length a2), (3, .slice b6 b5.length b7), (4, .pointer (some ⟨a5, 0, none⟩)), (5, .int .i64 a4), (6, .int .i64 a1), (62, .int .i64 (IntKind.i64.wrap (a6 + 1))), (63, .pointer (some ⟨a5, 0, none⟩))] (by kernel_rfl) ?_
      refine EL.of (EO.storeBox (os' := Ass.own 69 kS69 c1 c2 c0 :: Ass.box 110 a5 [.int .i64 (IntKind.i64.wrap (a6 + 1)), .int .i64 a7, .int .i64 a8, .int .i64 a9] :: Ass.own 69 kS69 b6 b7 b5 :: os) hS 1 rfl 3 0 (.int .i64 (IntKind.i64.wrap (a6 + 1))) [.int .i64 (IntKind.i64.wrap (a6 + 1)), .int .i64 a7, .int .i64 a8, .int .i64 a9] (by kernel_rfl) (by kernel_rfl) (by kernel_rfl) (by kernel_rfl) (by kernel_rfl) (by kernel_rfl) rfl rfl ?_)
      intro w hS
      refine EL.done (by kernel_rfl) ?_
      refine EQ.pop ?_
      refine EQ.to ?_
      refine EQ.keep [0, 3, 4, 5, 6] [(0, .slice (some a3) a0.length a2), (3, .slice b6 b5.length b7), (4, .pointer (some ⟨a5, 0, none⟩)), (5, .int .i64 a4), (6, .int .i64 a1)] (by kernel_rfl) ?_
      exact fun a ha => ⟨c0, IntKind.i64.wrap (a6 + 1), a7, a8, a9, b5, a4, c1, c2, b6, b7, ha, (hS.re [2, 2, 2] [] rfl (sub_cons 0 rfl (sub_tail (sub_self)))), H⟩
     ·rw [if_neg g4] at H
      by_cases g5 : b9 = 1
      ·rw [if_pos g5] at H
       refine EL.keep [0, 3, 4, 5, 6, 59] [(0, .slice (some a3) a0.length a2), (3, .slice b6 b5.length b7), (4, .pointer (some ⟨a5, 0, none⟩)), (5, .int .i64 a4), (6, .int .i64 a1), (59, .int .i64 b9)] (by kernel_rfl) ?_
       refine EL.as' [(0, .slice (some a3) a0.length a2), (3, .slice b6 b5.length b7), (4, .pointer (some ⟨a5, 0, none⟩)), (5, .int .i64 a4), (6, .int .i64 a1), (59, .int .i64 1)] (by simp only [g5]) ?_
       refine EL.quick 1 [0, 3, 4, 5, 6, 59, 60] [(0, .slice (some a3) a0.length a2), (3, .slice b6 b5.length b7), (4, .pointer (some ⟨a5, 0, none⟩)), (5, .int .i64 a4), (6, .int .i64 a1), (59, .int .i64 1), (60, .pointer (some ⟨a5, 1, none⟩))] (by kernel_rfl) ?_
       refine EL.of (EO.Y (YO.loadBox hS 1 rfl 3 1 1 (.int .i64 a7) 61 (by kernel_rfl) (by kernel_rfl) (by kernel_rfl) (by kernel_rfl)) ?_)
       refine EL.quick 2 [0, 3, 4, 5, 6, 62, 63] [(0, .slice (some a3) a0.length a2), (3, .slice b6 b5.length b7), (4, .pointer (some ⟨a5, 0, none⟩)), (5, .int .i64 a4), (6, .int .i64 a1), (62, .int .i64 (IntKind.i64.wrap (a7 + 1))), (63, .pointer (some ⟨a5, 1, none⟩))] (by kernel_rfl) ?_
       refine EL.of (EO.storeBox (os' := Ass.own 69 kS69 c1 c2 c0 :: Ass.box 110 a5 [.int .i64 a6, .int .i64 (IntKind.i64.wrap (a7 + 1)), .int .i64 a8, .int .i64 a9] :: Ass.own 69 kS69 b6 b7 b5 :: os) hS 1 rfl 3 1 (.int .i64 (IntKind.i64.wrap (a7 + 1))) [.int .i64 a6, .int .i64 (IntKind.i64.wrap (a7 + 1)), .int .i64 a8, .int .i64 a9] (by kernel_rfl) (by kernel_rfl) (by kernel_rfl) (by kernel_rfl) (by kernel_rfl) (by kernel_rfl) rfl rfl ?_)
       intro w hS
       refine EL.done (by kernel_rfl) ?_
       refine EQ.pop ?_
       refine EQ.to ?_
       refine EQ.keep [0, 3, 4, 5, 6] [(0, .slice (some a3) a0.length a2), (3, .slice b6 b5.length b7), (4, .pointer (some ⟨a5, 0, none⟩)), (5, .int .i64 a4), (6, .int .i64 a1)] (by kernel_rfl) ?_
       exact fun a ha => ⟨c0, a6, IntKind.i64.wrap (a7 + 1), a8, a9, b5, a4, c1, c2, b6, b7, ha, (hS.re [2, 2, 2] [] rfl (sub_cons 0 rfl (sub_tail (sub_self)))), H⟩
      ·rw [if_neg g5] at H
       by_cases g6 : b9 = 2
       ·rw [if_pos g6] at H
        refine EL.keep [0, 3, 4, 5, 6, 59] [(0, .slice (some a3) a0.length a2), (3, .slice b6 b5.length b7), (4, .pointer (some ⟨a5, 0, none⟩)), (5, .int .i64 a4), (6, .int .i64 a1), (59, .int .i64 b9)] (by kernel_rfl) ?_
        refine EL.as' [(0, .slice (some a3) a0.length a2), (3, .slice b6 b5.length b7), (4, .pointer (some ⟨a5, 0, none⟩)), (5, .int .i64 a4), (6, .int .i64 a1), (59, .int .i64 2)] (by simp only [g6]) ?_
        refine EL.quick 1 [0, 3, 4, 5, 6, 59, 60] [(0, .slice (some a3) a0.length a2), (3, .slice b6 b5.length b7), (4, .pointer (some ⟨a5, 0, none⟩)), (5, .int .i64 a4), (6, .int .i64 a1), (59, .int .i64 2), (60, .pointer (some ⟨a5, 2, none⟩))] (by kernel_rfl) ?_
        refine EL.of (EO.Y (YO.loadBox hS 1 rfl 3 2 1 (.int .i64 a8) 61 (by kernel_rfl) (by kernel_rfl) (by kernel_rfl) (by kernel_rfl)) ?_)
        refine EL.quick 2 [0, 3, 4, 5, 6, 62, 63] [(0, .slice (some a3) a0.length a2), (3, .slice b6 b5.length b7), (4, .pointer (some ⟨a5, 0, none⟩)), (5, .int .i64 a4), (6, .int .i64 a1), (62, .int .i64 (IntKind.i64.wrap (a8 + 1))), (63, .pointer (some ⟨a5, 2, none⟩))] (by kernel_rfl) ?_
        refine EL.of (EO.storeBox (os' := Ass.own 69 kS69 c1 c2 c0 :: Ass.box 110 a5 [.int .i64 a6, .int .i64 a7, .int .i64 (IntKind.i64.wrap (a8 + 1)), .int .i64 a9] :: Ass.own 69 kS69 b6 b7 b5 :: os) hS 1 rfl 3 2 (.int .i64 (IntKind.i64.wrap (a8 + 1))) [.int .i64 a6, .int .i64 a7, .int .i64 (IntKind.i64.wrap (a8 + 1)), .int .i64 a9] (by kernel_rfl) (by kernel_rfl) (by kernel_rfl) (by kernel_rfl) (by kernel_rfl) (by kernel_rfl) rfl rfl ?_)
        intro w hS
        refine EL.done (by kernel_rfl) ?_
        refine EQ.pop ?_
        refine EQ.to ?_
        refine EQ.keep [0, 3, 4, 5, 6] [(0, .slice (some a3) a0.length a2), (3, .slice b6 b5.length b7), (4, .pointer (some ⟨a5, 0, none⟩)), (5, .int .i64 a4), (6, .int .i64 a1)] (by kernel_rfl) ?_
        exact fun a ha => ⟨c0, a6, a7, IntKind.i64.wrap (a8 + 1), a9, b5, a4, c1, c2, b6, b7, ha, (hS.re [2, 2, 2] [] rfl (sub_cons 0 rfl (sub_tail (sub_self)))), H⟩
       ·rw [if_neg g6] at H
        by_cases g7 : b9 = 3
        ·rw [if_pos g7] at H
         refine EL.keep [0, 3, 4, 5, 6, 59] [(0, .slice (some a3) a0.length a2), (3, .slice b6 b5.length b7), (4, .pointer (some ⟨a5, 0, none⟩)), (5, .int .i64 a4), (6, .int .i64 a1), (59, .int .i64 b9)] (by kernel_rfl) ?_
         refine EL.as' [(0, .slice (some a3) a0.length a2), (3, .slice b6 b5.length b7), (4, .pointer (some ⟨a5, 0, none⟩)), (5, .int .i64 a4), (6, .int .i64 a1), (59, .int .i64 3)] (by simp only [g7]) ?_
         refine EL.quick 1 [0, 3, 4, 5, 6, 59, 60] [(0, .slice (some a3) a0.length a2), (3, .slice b6 b5.length b7), (4, .pointer (some ⟨a5, 0, none⟩)), (5, .int .i64 a4), (6, .int .i64 a1), (59, .int .i64 3), (60, .pointer (some ⟨a5, 3, none⟩))] (by kernel_rfl) ?_
         refine EL.of (EO.Y (YO.loadBox hS 1 rfl 3 3 1 (.int .i64 a9) 61 (by kernel_rfl) (by kernel_rfl) (by kernel_rfl) (by kernel_rfl)) ?_)
         refine EL.quick 2 [0, 3, 4, 5, 6, 62, 63] [(0, .slice (some a3) a0.length a2), (3, .slice b6 b5.length b7), (4, .pointer (some ⟨a5, 0, none⟩)), (5, .int .i64 a4), (6, .int .i64 a1), (62, .int .i64 (IntKind.i64.wrap (a9 + 1))), (63, .pointer (some ⟨a5, 3, none⟩))] (by kernel_rfl) ?_
         refine EL.of (EO.storeBox (os' := Ass.own 69 kS69 c1 c2 c0 :: Ass.box 110 a5 [.int .i64 a6, .int .i64 a7, .int .i64 a8, .int .i64 (IntKind.i64.wrap (a9 + 1))] :: Ass.own 69 kS69 b6 b7 b5 :: os) hS 1 rfl 3 3 (.int .i64 (IntKind.i64.wrap (a9 + 1))) [.int .i64 a6, .int .i64 a7, .int .i64 a8, .int .i64 (IntKind.i64.wrap (a9 + 1))] (by kernel_rfl) (by kernel_rfl) (by kernel_rfl) (by kernel_rfl) (by kernel_rfl) (by kernel_rfl) rfl rfl ?_)
         intro w hS
         refine EL.done (by kernel_rfl) ?_
         refine EQ.pop ?_
         refine EQ.to ?_
         refine EQ.keep [0, 3, 4, 5, 6] [(0, .slice (some a3) a0.length a2), (3, .slice b6 b5.length b7), (4, .pointer (some ⟨a5, 0, none⟩)), (5, .int .i64 a4), (6, .int .i64 a1)] (by kernel_rfl) ?_
         exact fun a ha => ⟨c0, a6, a7, a8, IntKind.i64.wrap (a9 + 1), b5, a4, c1, c2, b6, b7, ha, (hS.re [2, 2, 2] [] rfl (sub_cons 0 rfl (sub_tail (sub_self)))), H⟩
        ·rw [if_neg g7] at H
         cases H
   ·obtain ⟨f5, d9, e0, e1, e2, c4, c9, g9, i1, d4, d5, ha, hS, H⟩ := hI
    rw [j0] at H
    (try dsimp only at H)
    refine EW.at ?_ a ha
    clear ha a
    refine EW.region (id := 6) (ops := Cd28.r.r.r.r.l.r.l.l.r.r.ops) (by kernel_rfl) ?_
    refine EL.quick 3 [0, 3, 4, 5, 6] [(0, .slice b8 a0.length a2), (3, .slice d4 c4.length d5), (4, .pointer (some ⟨a5, 0, none⟩)), (5, .int .i64 c9), (6, .int .i64 (IntKind.i64.wrap (a1 + 1)))] (by kernel_rfl) ?_
    refine EL.done (by kernel_rfl) ?_
    refine EQ.to ?_
    refine EQ.keep [0, 3, 4, 5, 6] [(0, .slice b8 a0.length a2), (3, .slice d4 c4.length d5), (4, .pointer (some ⟨a5, 0, none⟩)), (5, .int .i64 c9), (6, .int .i64 (IntKind.i64.wrap (a1 + 1)))] (by kernel_rfl) ?_
    exact fun a ha => ⟨n, Nat.lt_succ_self n, d9, e0, e1, e2, c4, c9, IntKind.i64.wrap (a1 + 1), d4, d5, ha, (hS.re [2, 2] [2] rfl (sub_cons 0 rfl (sub_tail (sub_self)))), H⟩
  ·rw [if_neg b1] at H
   refine EW.exit (id := 0) (by kernel_rfl) ?_
   refine EQ.exitCode ?_
   refine EQ.exitTo ?_
   refine EQ.exitHere ?_
   refine EQ.code ?_
   refine EW.seq (x := Cd28.r.r.r.r.r.l) (y := Cd28.r.r.r.r.r.r) (by kernel_rfl) ?_
   refine EW.region (id := 11) (ops := Cd28.r.r.r.r.r.l.ops) (by kernel_rfl) ?_
   refine EL.quick 2 [2] [(2, .slice b3 b0.length b4)] (by kernel_rfl) ?_
   refine EL.done (by kernel_rfl) ?_
   refine EQ.code ?_
   refine EW.ret (by kernel_rfl) ?_
   obtain rfl := Option.some.inj H
   exact EQ.leave (.slice b3 b0.length b4) (by kernel_rfl) ⟨_, rfl, b3, b4, rfl, (hS.re [1] [1] rfl (sub_self))⟩

end Go.Proofs.Ytipaaapbapijhaa.G
