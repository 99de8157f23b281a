import Derived.Test.YtlcnkngpankkpaaProg
import Derived.Test.YtlcnkngpankkpaaFwShort
import Derived.Test.YtlcnkngpankkpaaFwOpen
import Derived.Test.YtlcnkngpankkpaaG0
namespace Go.Proofs.Ytlcnkngpankkpaa.G
open Go Go.Fw Go.RowKit Go.Proofs
set_option linter.unusedVariables false
set_option linter.unusedSimpArgs false

/-! ### confidant/word.Div: function 51 -/
def word_Div.f (K : Nat) (a1 : Int) (a0 : Int) : Option (Int × Bool) := if a0 = 0 then (some (0, false)) else (some (IntKind.i32.wrap (Int.tdiv a1 a0), true))
set_option maxRecDepth 100000 in
theorem word_Div.calls {K : Nat} {a1 : Int} {a0 : Int} {a3 : Int} {a4 : Bool} {B w : World} {os : List Ass} {rs : List Ro} (H : word_Div.f K a1 a0 = some (a3, a4)) (hS : St B w (os) (rs)) :
  Calls Try.prog 51 [ib a1, ib a0].toArray w (fun en w' => ∃ v, en = .returned v ∧ v = .tuple #[ib a3, .bool (a4)] ∧ St B w' (os) (rs)) := by
 unfold word_Div.f at H
 refine calls_of_EW (args := [ib a1, ib a0]) (c := Cd51) 11 Try.func51 (by kernel_rfl) (by kernel_rfl) (by kernel_rfl) ?_
 refine EW.sq (by kernel_rfl) ?_
 refine EW.rg (by kernel_rfl) ?_
 refine EL.quick 2 [0, 1] [(0, ib a1), (1, ib a0)] (by kernel_rfl) ?_
 refine EL.done (by kernel_rfl) ?_
 refine EQ.code ?_
 refine EW.sq (by kernel_rfl) ?_
 refine EW.sq (by kernel_rfl) ?_
 refine EW.rg (by kernel_rfl) ?_
 refine EL.quick 2 [0, 1, 7] [(0, ib a1), (1, ib a0), (7, .bool (decide (a0 = 0)))] (by kernel_rfl) ?_
 refine EL.done (by kernel_rfl) ?_
 refine EQ.code ?_
 refine EW.cdP (a0 = 0) (by kernel_rfl) (by kernel_rfl) (fun a2 => ?_) (fun a2 => ?_)
 ·rw [if_pos a2] at H
  refine EW.sq (by kernel_rfl) ?_
  refine EW.rg (by kernel_rfl) ?_
  refine EL.quick 2 [4, 5] [(4, ib 0), (5, .bool (false))] (by kernel_rfl) ?_
  refine EL.done (by kernel_rfl) ?_
  refine EQ.code ?_
  refine EW.ret (by kernel_rfl) ?_
  refine EQ.ret ?_
  simp only [Option.some.injEq, Prod.mk.injEq] at H
  obtain ⟨rfl, rfl⟩ := H
  exact EQ.leave (.tuple #[ib 0, .bool (false)]) (by kernel_rfl) ⟨_, rfl, rfl, (hS.re [] [] rfl (sub_self))⟩
 rw [if_neg a2] at H
 refine EW.skip (by kernel_rfl) ?_
 refine EQ.code ?_
 refine EW.sq (by kernel_rfl) ?_
 refine EW.rg (by kernel_rfl) ?_
 refine EL.quick 2 [8, 9] [(8, ib a1), (9, ib a0)] (by kernel_rfl) ?_
 refine EL.of (EO.Y (YO.div .quo .i32 a1 a0 (IntKind.i32.wrap (Int.tdiv a1 a0)) 10 (by kernel_rfl) (by kernel_rfl) (by kernel_rfl) a2 (by first | exact .inl ⟨rfl, rfl⟩ | exact .inr ⟨rfl, rfl⟩)) ?_)
 refine EL.quick 2 [4, 5] [(4, ib (IntKind.i32.wrap (Int.tdiv a1 a0))), (5, .bool (true))] (by kernel_rfl) ?_
 refine EL.done (by kernel_rfl) ?_
 refine EQ.code ?_
 refine EW.ret (by kernel_rfl) ?_
 simp only [Option.some.injEq, Prod.mk.injEq] at H
 obtain ⟨rfl, rfl⟩ := H
 exact EQ.leave (.tuple #[ib (IntKind.i32.wrap (Int.tdiv a1 a0)), .bool (true)]) (by kernel_rfl) ⟨_, rfl, rfl, (hS.re [] [] rfl (sub_self))⟩

/-! ### confidant/task.Step: function 28 -/
def task_Step.f (K : Nat) (a42 : S58) (l45 : List (List S32)) : Option (S63 × S58) := b3 (task_at.f K a42 l45) fun (a7 : Int) (a0 : Int) (f7 : Bool) => (if f7 = true then (if a7 = 1 then (b1 (task_acts.f K) fun (_ : Unit) => (b1 (task_act_push.f K (⟨a42, a0⟩ : S91)) fun (a9 : S58) => (some (({zS63 with f0 := 1} : S63), a9)))) else (if a7 = 2 then (b1 (task_acts.f K) fun (_ : Unit) => (b1 (task_act_pop.f K (⟨a42, a0⟩ : S91)) fun (b0 : S58) => (some (({zS63 with f0 := 1} : S63), b0)))) else (if a7 = 3 then (b1 (task_acts.f K) fun (_ : Unit) => (b1 (task_act_dup.f K (⟨a42, a0⟩ : S91)) fun (b4 : S58) => (some (({zS63 with f0 := 1} : S63), b4)))) else (if a7 = 10 then (b1 (task_acts.f K) fun (_ : Unit) => (b1 (task_act_jump.f K (⟨a42, a0⟩ : S91)) fun (b5 : S58) => (some (({zS63 with f0 := 1} : S63), b5)))) else (if a7 = 11 then (b1 (task_acts.f K) fun (_ : Unit) => (b1 (task_act_jumpZ.f K (⟨a42, a0⟩ : S91)) fun (b6 : S58) => (some (({zS63 with f0 := 1} : S63), b6)))) else (if a7 = 12 then (b1 (task_acts.f K) fun (_ : Unit) => (b1 (task_act_load.f K (⟨a42, a0⟩ : S91)) fun (b7 : S58) => (some (({zS63 with f0 := 1} : S63), b7)))) else (if a7 = 13 then (b1 (task_acts.f K) fun (_ : Unit) => (b1 (task_act_store.f K (⟨a42, a0⟩ : S91)) fun (b8 : S58) => (some (({zS63 with f0 := 1} : S63), b8)))) else (if a7 = 14 then (b1 (task_acts.f K) fun (_ : Unit) => (b1 (task_act_label.f K (⟨a42, a0⟩ : S91)) fun (b9 : S58) => (some (({zS63 with f0 := 1} : S63), b9)))) else (if 0 ≤ a7 then (if a7 < 27 then (b1 (task_acts.f K) fun (_ : Unit) => (if a7 = 4 then (b1 (task_two.f K) fun (_ : Unit) => (b1 (task_act_top.f K (⟨a42, a0⟩ : S91) 1) fun (m4 : Int) => (b1 (task_act_top.f K (⟨a42, a0⟩ : S91) 0) fun (m5 : Int) => (b1 (word_Add.f K m4 m5) fun (g9 : Int) => (lt ([g9] : List Int) fun g3 => (b1 (task_Drop.f K a42 2 g3) fun (c0 : S58) => (some (({zS63 with f0 := 1} : S63), c0)))))))) else (if a7 = 5 then (b1 (task_two.f K) fun (_ : Unit) => (b1 (task_act_top.f K (⟨a42, a0⟩ : S91) 1) fun (m6 : Int) => (b1 (task_act_top.f K (⟨a42, a0⟩ : S91) 0) fun (m7 : Int) => (b1 (word_Sub.f K m6 m7) fun (i0 : Int) => (lt ([i0] : List Int) fun g4 => (b1 (task_Drop.f K a42 2 g4) fun (c1 : S58) => (some (({zS63 with f0 := 1} : S63), c1)))))))) else (if a7 = 6 then (b1 (task_two.f K) fun (_ : Unit) => (b1 (task_act_top.f K (⟨a42, a0⟩ : S91) 1) fun (m8 : Int) => (b1 (task_act_top.f K (⟨a42, a0⟩ : S91) 0) fun (m9 : Int) => (b1 (word_Mul.f K m8 m9) fun (i1 : Int) => (lt ([i1] : List Int) fun g5 => (b1 (task_Drop.f K a42 2 g5) fun (c2 : S58) => (some (({zS63 with f0 := 1} : S63), c2)))))))) else (if a7 = 8 then (b1 (task_two.f K) fun (_ : Unit) => (b1 (task_act_top.f K (⟨a42, a0⟩ : S91) 1) fun (n0 : Int) => (b1 (task_act_top.f K (⟨a42, a0⟩ : S91) 0) fun (n1 : Int) => (b1 (word_Less.f K n0 n1) fun (i2 : Int) => (lt ([i2] : List Int) fun g6 => (b1 (task_Drop.f K a42 2 g6) fun (c3 : S58) => (some (({zS63 with f0 := 1} : S63), c3)))))))) else (if a7 = 9 then (b1 (task_two.f K) fun (_ : Unit) => (b1 (task_act_top.f K (⟨a42, a0⟩ : S91) 1) fun (n2 : Int) => (b1 (task_act_top.f K (⟨a42, a0⟩ : S91) 0) fun (n3 : Int) => (b1 (word_Eq.f K n2 n3) fun (i3 : Int) => (lt ([i3] : List Int) fun g7 => (b1 (task_Drop.f K a42 2 g7) fun (c4 : S58) => (some (({zS63 with f0 := 1} : S63), c4)))))))) else (b1 (task_two.f K) fun (_ : Unit) => (if a7 = 7 then (b1 (task_act_top.f K (⟨a42, a0⟩ : S91) 1) fun (j8 : Int) => (b1 (task_act_top.f K (⟨a42, a0⟩ : S91) 0) fun (n4 : Int) => (b2 (word_Div.f K j8 n4) fun (c5 : Int) (g2 : Bool) => (if g2 = true then (lt ([c5] : List Int) fun g8 => (b1 (task_Drop.f K a42 2 g8) fun (c6 : S58) => (some (({zS63 with f0 := 1} : S63), c6)))) else (b1 (task_failed.f K 32) fun (f8 : S63) => (some (f8, a42))))))) else (if a7 = 25 then (b1 (task_act_top.f K (⟨a42, a0⟩ : S91) 0) fun (a8 : Int) => (some ((⟨2, a8, 0⟩ : S63), a42))) else (if a7 = 26 then (b1 (task_failed.f K (IntKind.i64.wrap a0)) fun (f9 : S63) => (some (f9, a42))) else (some (({zS63 with f0 := 4} : S63), a42)))))))))))) else none) else none))))))))) else (b1 (task_failed.f K 24) fun (g0 : S63) => (some (g0, a42))))
set_option maxHeartbeats 4000000 in
set_option maxRecDepth 100000 in
theorem task_Step.calls {K : Nat} {a42 : S58} {l45 : List (List S32)} {A43 : Option Addr} {C44 : Nat} {A46 : Option Addr} {C47 : Nat} {p0 : S63} {n5 : S58} {B w : World} {os : List Ass} {rs : List Ro} (H : task_Step.f K a42 l45 = some (p0, n5)) (hS : St B w (os) (Ro.sl (Kd.int .i32) A43 C44 a42.f3 :: Ro.sl (Kd.slice kS32) A46 C47 l45 :: rs)) :
  Calls Try.prog 28 [ag (cellsS58 a42 (A43, C44)), sv A46 C47 l45].toArray w (fun en w' => ∃ v, en = .returned v ∧ ∃ n6 : Option Addr, ∃ n7 : Nat, v = .tuple #[ag (cellsS58 n5 (n6, n7)), ag (encS63 p0)] ∧ St B w' (os) (Ro.sl (Kd.int .i32) n6 n7 n5.f3 :: Ro.sl (Kd.int .i32) A43 C44 a42.f3 :: Ro.sl (Kd.slice kS32) A46 C47 l45 :: rs)) := by
 unfold task_Step.f at H
 refine calls_of_EW (args := [ag (cellsS58 a42 (A43, C44)), sv A46 C47 l45]) (c := Cd28) 91 Try.func28 (by kernel_rfl) (by kernel_rfl) (by kernel_rfl) ?_
 refine EW.sq (by kernel_rfl) ?_
 refine EW.rg (by kernel_rfl) ?_
 refine EL.of (EO.box hS 58 (ag (cellsS58 a42 (A43, C44))) (cellsS58 a42 (A43, C44)) 2 (by kernel_rfl) (by kernel_rfl) (by kernel_rfl) (by first | rfl | kernel_rfl) ?_)
 intro a2 w hS
 refine EL.of (EO.alloc hS 58 (ag (cellsS58 zS58 (none, 0))) (cellsS58 zS58 (none, 0)) 4 (by kernel_rfl) (by kernel_rfl) (by kernel_rfl) (by kernel_rfl) (by first | rfl | kernel_rfl) ?_)
 intro a3 w hS
 refine EL.of (EO.alloc hS 63 (ag (encS63 zS63)) (encS63 zS63) 5 (by kernel_rfl) (by kernel_rfl) (by kernel_rfl) (by kernel_rfl) (by first | rfl | kernel_rfl) ?_)
 intro a4 w hS
 refine EL.done (by kernel_rfl) ?_
 refine EQ.code ?_
 refine EW.sq (by kernel_rfl) ?_
 refine EW.rg (by kernel_rfl) ?_
 refine EL.of (EO.Y (YO.loadBox hS 2 rfl 58 0 12 (ag (cellsS58 a42 (A43, C44))) 15 (by kernel_rfl) (by kernel_rfl) (by kernel_rfl) (by kernel_rfl)) ?_)
 refine EL.quick 1 [2, 4, 5, 15, 16] [(2, pt a2 0), (4, pt a3 0), (5, pt a4 0), (15, ag (cellsS58 a42 (A43, C44))), (16, sv A46 C47 l45)] (by kernel_rfl) ?_
 have hS : St B _ (Ass.box 63 a4 (encS63 zS63) :: Ass.box 58 a3 (cellsS58 zS58 (none, 0)) :: Ass.box 58 a2 (cellsS58 a42 (A43, C44)) :: os) (Ro.sl (Kd.int .i32) A43 C44 a42.f3 :: Ro.sl (Kd.slice kS32) A46 C47 l45 :: rs) := hS.re [] [] rfl (sub_cons 0 rfl (sub_cons 1 rfl (sub_tail (sub_tail (sub_self)))))
 obtain ⟨a7, a0, f7, p1, H⟩ := b3_out H
 have hq := task_at.calls p1 hS
 refine EL.of (EO.callD 46 [ag (cellsS58 a42 (A43, C44)), sv A46 C47 l45] _ 17 (by kernel_rfl) (by kernel_rfl) (by kernel_rfl) hq ?_)
 rintro v w ⟨rfl, hS⟩
 refine EL.quick 3 [2, 4, 5, 18, 19] [(2, pt a2 0), (4, pt a3 0), (5, pt a4 0), (18, ag [ia a7, ib a0]), (19, .bool (f7))] (by kernel_rfl) ?_
 refine EL.of (EO.alloc hS 32 (ag [ia 0, ib 0]) [ia 0, ib 0] 6 (by kernel_rfl) (by kernel_rfl) (by kernel_rfl) (by kernel_rfl) (by first | rfl | kernel_rfl) ?_)
 intro a1 w hS
 refine EL.of (EO.storeBox (os' := Ass.box 32 a1 [ia a7, ib a0] :: Ass.box 63 a4 (encS63 zS63) :: Ass.box 58 a3 (cellsS58 zS58 (none, 0)) :: Ass.box 58 a2 (cellsS58 a42 (A43, C44)) :: os) hS 0 rfl 32 0 (ag [ia a7, ib a0]) [ia a7, ib a0] (by kernel_rfl) (by kernel_rfl) (by kernel_rfl) (by kernel_rfl) (by kernel_rfl) (by kernel_rfl) rfl rfl ?_)
 intro w hS
 refine EL.quick 1 [2, 4, 5, 6, 7] [(2, pt a2 0), (4, pt a3 0), (5, pt a4 0), (6, pt a1 0), (7, .bool (f7))] (by kernel_rfl) ?_
 refine EL.done (by kernel_rfl) ?_
 refine EQ.code ?_
 refine EW.sq (by kernel_rfl) ?_
 refine EW.sq (by kernel_rfl) ?_
 refine EW.rg (by kernel_rfl) ?_
 refine EL.quick 2 [2, 4, 5, 6, 21] [(2, pt a2 0), (4, pt a3 0), (5, pt a4 0), (6, pt a1 0), (21, .bool (!(f7)))] (by kernel_rfl) ?_
 refine EL.done (by kernel_rfl) ?_
 refine EQ.code ?_
 refine EW.cdQ (b := !(f7)) (f7 = true) (false) (by kernel_rfl) (by kernel_rfl) ⟨fun h => (by rw [h] <;> rfl), fun h => (by rw [Bool.eq_false_iff.2 h] <;> rfl)⟩ (fun j9 => ?_) (fun j9 => ?_)
 ·rw [if_pos j9] at H
  refine EW.skip (by kernel_rfl) ?_
  refine EQ.code ?_
  refine EW.sq (by kernel_rfl) ?_
  refine EW.rg (by kernel_rfl) ?_
  refine EL.of (EO.Y (YO.loadBox hS 3 rfl 58 0 12 (ag (cellsS58 a42 (A43, C44))) 24 (by kernel_rfl) (by kernel_rfl) (by kernel_rfl) (by kernel_rfl)) ?_)
  refine EL.quick 1 [2, 4, 5, 6, 24, 25] [(2, pt a2 0), (4, pt a3 0), (5, pt a4 0), (6, pt a1 0), (24, ag (cellsS58 a42 (A43, C44))), (25, pt a1 1)] (by kernel_rfl) ?_
  refine EL.of (EO.Y (YO.loadBox hS 0 rfl 21 1 1 (ib a0) 26 (by kernel_rfl) (by kernel_rfl) (by kernel_rfl) (by kernel_rfl)) ?_)
  refine EL.quick 2 [2, 4, 5, 6, 27, 28] [(2, pt a2 0), (4, pt a3 0), (5, pt a4 0), (6, pt a1 0), (27, ag (cellsS91 (⟨a42, a0⟩ : S91) (A43, C44))), (28, ag (encS63 {zS63 with f0 := 1}))] (by kernel_rfl) ?_
  refine EL.of (EO.alloc hS 91 (ag (cellsS91 zS91 (none, 0))) (cellsS91 zS91 (none, 0)) 8 (by kernel_rfl) (by kernel_rfl) (by kernel_rfl) (by kernel_rfl) (by first | rfl | kernel_rfl) ?_)
  intro a6 w hS
  refine EL.of (EO.alloc hS 63 (ag (encS63 zS63)) (encS63 zS63) 9 (by kernel_rfl) (by kernel_rfl) (by kernel_rfl) (by kernel_rfl) (by first | rfl | kernel_rfl) ?_)
  intro a5 w hS
  refine EL.of (EO.storeBox (os' := Ass.box 63 a5 (encS63 zS63) :: Ass.box 91 a6 (cellsS91 (⟨a42, a0⟩ : S91) (A43, C44)) :: Ass.box 32 a1 [ia a7, ib a0] :: Ass.box 63 a4 (encS63 zS63) :: Ass.box 58 a3 (cellsS58 zS58 (none, 0)) :: Ass.box 58 a2 (cellsS58 a42 (A43, C44)) :: os) hS 1 rfl 91 0 (ag (cellsS91 (⟨a42, a0⟩ : S91) (A43, C44))) (cellsS91 (⟨a42, a0⟩ : S91) (A43, C44)) (by kernel_rfl) (by kernel_rfl) (by kernel_rfl) (by kernel_rfl) (by kernel_rfl) (by kernel_rfl) rfl rfl ?_)
  intro w hS
  refine EL.of (EO.storeBox (os' := Ass.box 63 a5 (encS63 {zS63 with f0 := 1}) :: Ass.box 91 a6 (cellsS91 (⟨a42, a0⟩ : S91) (A43, C44)) :: Ass.box 32 a1 [ia a7, ib a0] :: Ass.box 63 a4 (encS63 zS63) :: Ass.box 58 a3 (cellsS58 zS58 (none, 0)) :: Ass.box 58 a2 (cellsS58 a42 (A43, C44)) :: os) hS 0 rfl 63 0 (ag (encS63 {zS63 with f0 := 1})) (encS63 {zS63 with f0 := 1}) (by kernel_rfl) (by kernel_rfl) (by kernel_rfl) (by kernel_rfl) (by kernel_rfl) (by kernel_rfl) rfl rfl ?_)
  intro w hS
  refine EL.done (by kernel_rfl) ?_
  refine EQ.code ?_
  refine EW.sq (by kernel_rfl) ?_
  refine EW.sq (by kernel_rfl) ?_
  by_cases i4 : a7 = 1
  ·rw [if_pos i4] at H
   refine EW.keep [2, 4, 5, 6, 8, 9] [(2, pt a2 0), (4, pt a3 0), (5, pt a4 0), (6, pt a1 0), (8, pt a6 0), (9, pt a5 0)] (by kernel_rfl) ?_
   have hS := St.as (os' := Ass.box 63 a5 (encS63 {zS63 with f0 := 1}) :: Ass.box 91 a6 (cellsS91 (⟨a42, a0⟩ : S91) (A43, C44)) :: Ass.box 32 a1 [ia 1, ib a0] :: Ass.box 63 a4 (encS63 zS63) :: Ass.box 58 a3 (cellsS58 zS58 (none, 0)) :: Ass.box 58 a2 (cellsS58 a42 (A43, C44)) :: os) hS (by simp only [cellsS58, cellsS91, encS63, i4])
   obtain ⟨_, p2, H⟩ := b1_out H
   have hS := hS.drew
   refine EW.dr (B := B) [Ass.box 63 a5 (encS63 {zS63 with f0 := 1}), Ass.box 91 a6 (cellsS91 (⟨a42, a0⟩ : S91) (A43, C44)), Ass.box 32 a1 [ia 1, ib a0], Ass.box 63 a4 (encS63 zS63), Ass.box 58 a3 (cellsS58 zS58 (none, 0)), Ass.box 58 a2 (cellsS58 a42 (A43, C44))] [Ro.sl (Kd.int .i32) A43 C44 a42.f3, Ro.sl (Kd.slice kS32) A46 C47 l45] (by kernel_rfl) (by kernel_rfl) ?_
   have hN : Region.noSelect Cd28.r.r.r.r.l.l.ops = true := (by kernel_rfl)
   have hF : freeAll Cd28.r.r.r.r.l.l.ops = true := (by kernel_rfl)
   have hC : Core B [Ass.box 63 a5 (encS63 {zS63 with f0 := 1}), Ass.box 91 a6 (cellsS91 (⟨a42, a0⟩ : S91) (A43, C44)), Ass.box 32 a1 [ia 1, ib a0], Ass.box 63 a4 (encS63 zS63), Ass.box 58 a3 (cellsS58 zS58 (none, 0)), Ass.box 58 a2 (cellsS58 a42 (A43, C44))] [Ro.sl (Kd.int .i32) A43 C44 a42.f3, Ro.sl (Kd.slice kS32) A46 C47 l45] _ := ⟨_, _, hS⟩
   refine ED.quick hN hF hC [1] [2, 4, 5, 6, 8, 9, 30] 4 [(2, pt a2 0), (4, pt a3 0), (5, pt a4 0), (6, pt a1 0), (8, pt a6 0), (9, pt a5 0), (30, pt a1 0)] (bm 5 2) (by kernel_rfl) (by kernel_rfl) ?_
   refine ED.Y hN hF hC 2 3 (bm 5 6) (by kernel_rfl) (by kernel_rfl) rfl (fun _ _ _ hS => YO.loadBox hS 2 rfl 3 0 1 (ia 1) 31 (by kernel_rfl) (by kernel_rfl) (by kernel_rfl) (by kernel_rfl)) ?_
   have hq := task_acts.calls p2 hS
   refine ED.one 0 2 (bm 5 7) (by kernel_rfl) (by kernel_rfl) (by kernel_rfl) (EO.callD 48 [] _ 29 (by kernel_rfl) (by kernel_rfl) (by kernel_rfl) hq ?_)
   rintro v w ⟨rfl, hS⟩
   have hC := hC.again ⟨_, _, hS⟩
   refine ⟨hC, ?_⟩
   refine ED.quick hN hF hC [3, 4] [2, 4, 5, 6, 8, 9, 10] 0 [(2, pt a2 0), (4, pt a3 0), (5, pt a4 0), (6, pt a1 0), (8, pt a6 0), (9, pt a5 0), (10, .func (.func 70) #[] #[])] (bm 5 31) (by kernel_rfl) (by kernel_rfl) ?_
   refine ED.done (by kernel_rfl) ?_
   refine EQ.code ?_
   refine EW.sq (by kernel_rfl) ?_
   refine EW.rg (by kernel_rfl) ?_
   refine EL.quick 2 [2, 4, 5, 6, 8, 9, 10, 34] [(2, pt a2 0), (4, pt a3 0), (5, pt a4 0), (6, pt a1 0), (8, pt a6 0), (9, pt a5 0), (10, .func (.func 70) #[] #[]), (34, .bool (true))] (by kernel_rfl) ?_
   refine EL.done (by kernel_rfl) ?_
   refine EQ.code ?_
   refine EW.cdT (by kernel_rfl) (by kernel_rfl) ?_
   refine EW.sq (by kernel_rfl) ?_
   obtain ⟨a9, p3, H⟩ := b1_out H
   have hS := hS.drew
   refine EW.dr (B := B) [Ass.box 63 a5 (encS63 {zS63 with f0 := 1}), Ass.box 91 a6 (cellsS91 (⟨a42, a0⟩ : S91) (A43, C44)), Ass.box 32 a1 [ia 1, ib a0], Ass.box 58 a2 (cellsS58 a42 (A43, C44))] [Ro.sl (Kd.int .i32) A43 C44 a42.f3, Ro.sl (Kd.slice kS32) A46 C47 l45] (by kernel_rfl) (by kernel_rfl) ?_
   have hN : Region.noSelect Cd28.r.r.r.r.l.r.r.l.l.ops = true := (by kernel_rfl)
   have hF : freeAll Cd28.r.r.r.r.l.r.r.l.l.ops = true := (by kernel_rfl)
   have hC : Core B [Ass.box 63 a5 (encS63 {zS63 with f0 := 1}), Ass.box 91 a6 (cellsS91 (⟨a42, a0⟩ : S91) (A43, C44)), Ass.box 32 a1 [ia 1, ib a0], Ass.box 58 a2 (cellsS58 a42 (A43, C44))] [Ro.sl (Kd.int .i32) A43 C44 a42.f3, Ro.sl (Kd.slice kS32) A46 C47 l45] _ := ⟨_, _, hS.re [5, 3, 3, 3] [] rfl sub_self⟩
   refine ED.quick hN hF hC [0] [4, 5, 8, 9, 35] 5 [(4, pt a3 0), (5, pt a4 0), (8, pt a6 0), (9, pt a5 0), (35, .func (.func 70) #[] #[])] (bm 6 1) (by kernel_rfl) (by kernel_rfl) ?_
   refine ED.Y hN hF hC 1 4 (bm 6 3) (by kernel_rfl) (by kernel_rfl) rfl (fun _ _ _ hS => YO.loadBox hS 1 rfl 91 0 13 (ag (cellsS91 (⟨a42, a0⟩ : S91) (A43, C44))) 36 (by kernel_rfl) (by kernel_rfl) (by kernel_rfl) (by kernel_rfl)) ?_
   refine ED.Y hN hF hC 3 3 (bm 6 11) (by kernel_rfl) (by kernel_rfl) rfl (fun _ _ _ hS => YO.loadBox hS 0 rfl 63 0 3 (ag (encS63 {zS63 with f0 := 1})) 38 (by kernel_rfl) (by kernel_rfl) (by kernel_rfl) (by kernel_rfl)) ?_
   have hS : St B _ (Ass.box 63 a5 (encS63 {zS63 with f0 := 1}) :: Ass.box 91 a6 (cellsS91 (⟨a42, a0⟩ : S91) (A43, C44)) :: Ass.box 32 a1 [ia 1, ib a0] :: Ass.box 63 a4 (encS63 zS63) :: Ass.box 58 a3 (cellsS58 zS58 (none, 0)) :: Ass.box 58 a2 (cellsS58 a42 (A43, C44)) :: os) (Ro.sl (Kd.int .i32) A43 C44 a42.f3 :: Ro.sl (Kd.slice kS32) A46 C47 l45 :: rs) := hS.re [] [] rfl (sub_cons 0 rfl (sub_tail (sub_self)))
   have hq := task_act_push.calls p3 hS
   refine ED.one 2 2 (bm 6 15) (by kernel_rfl) (by kernel_rfl) (by kernel_rfl) (EO.callD 70 [ag (cellsS91 (⟨a42, a0⟩ : S91) (A43, C44))] _ 37 (by kernel_rfl) (by kernel_rfl) (by kernel_rfl) hq ?_)
   rintro v w ⟨c7, e1, rfl, hS⟩
   have hC := hC.again ⟨_, _, hS.re [5, 3, 3, 3] [] rfl (sub_cons 1 rfl (sub_cons 2 rfl sub_self))⟩
   refine ⟨hC, ?_⟩
   refine ED.one 4 1 (bm 6 31) (by kernel_rfl) (by kernel_rfl) (by kernel_rfl) (EO.storeBox (os' := Ass.box 63 a5 (encS63 {zS63 with f0 := 1}) :: Ass.box 91 a6 (cellsS91 (⟨a42, a0⟩ : S91) (A43, C44)) :: Ass.box 32 a1 [ia 1, ib a0] :: Ass.box 63 a4 (encS63 zS63) :: Ass.box 58 a3 (cellsS58 a9 (c7, e1)) :: Ass.box 58 a2 (cellsS58 a42 (A43, C44)) :: os) hS 4 rfl 58 0 (ag (cellsS58 a9 (c7, e1))) (cellsS58 a9 (c7, e1)) (by kernel_rfl) (by kernel_rfl) (by kernel_rfl) (by kernel_rfl) (by kernel_rfl) (by kernel_rfl) rfl rfl ?_)
   intro w hS
   have hC := hC.again ⟨_, _, hS.re [5, 3, 3, 3] [] rfl (sub_cons 1 rfl (sub_cons 2 rfl sub_self))⟩
   refine ⟨hC, ?_⟩
   refine ED.one 5 0 (bm 6 63) (by kernel_rfl) (by kernel_rfl) (by kernel_rfl) (EO.storeBox (os' := Ass.box 63 a5 (encS63 {zS63 with f0 := 1}) :: Ass.box 91 a6 (cellsS91 (⟨a42, a0⟩ : S91) (A43, C44)) :: Ass.box 32 a1 [ia 1, ib a0] :: Ass.box 63 a4 (encS63 {zS63 with f0 := 1}) :: Ass.box 58 a3 (cellsS58 a9 (c7, e1)) :: Ass.box 58 a2 (cellsS58 a42 (A43, C44)) :: os) hS 3 rfl 63 0 (ag (encS63 {zS63 with f0 := 1})) (encS63 {zS63 with f0 := 1}) (by kernel_rfl) (by kernel_rfl) (by kernel_rfl) (by kernel_rfl) (by kernel_rfl) (by kernel_rfl) rfl rfl ?_)
   intro w hS
   have hC := hC.again ⟨_, _, hS.re [5, 3, 3, 3] [] rfl (sub_cons 1 rfl (sub_cons 2 rfl sub_self))⟩
   refine ⟨hC, ?_⟩
   refine ED.done (by kernel_rfl) ?_
   refine EQ.code ?_
   refine EW.ret (by kernel_rfl) ?_
   refine EQ.ret ?_
   simp only [cellsS58, cellsS91, encS63, Option.some.injEq, Prod.mk.injEq] at H
   obtain ⟨rfl, rfl⟩ := H
   exact EQ.leave2 hS (.cell 4 58) (.cell 5 63) (ag (cellsS58 a9 (c7, e1))) (ag (encS63 {zS63 with f0 := 1})) (by kernel_rfl) ⟨4, 58, a3, (cellsS58 a9 (c7, e1)), 0, 12, rfl, (by kernel_rfl), (by kernel_rfl)⟩ ⟨3, 63, a4, (encS63 {zS63 with f0 := 1}), 0, 3, rfl, (by kernel_rfl), (by kernel_rfl)⟩ ⟨_, rfl, c7, e1, rfl, (hS.re [] [0, 0, 0, 0, 0, 0] rfl (sub_cons 0 rfl (sub_tail (sub_self))))⟩
  rw [if_neg i4] at H
  by_cases i5 : a7 = 2
  ·rw [if_pos i5] at H
   refine EW.keep [2, 4, 5, 6, 8, 9] [(2, pt a2 0), (4, pt a3 0), (5, pt a4 0), (6, pt a1 0), (8, pt a6 0), (9, pt a5 0)] (by kernel_rfl) ?_
   have hS := St.as (os' := Ass.box 63 a5 (encS63 {zS63 with f0 := 1}) :: Ass.box 91 a6 (cellsS91 (⟨a42, a0⟩ : S91) (A43, C44)) :: Ass.box 32 a1 [ia 2, ib a0] :: Ass.box 63 a4 (encS63 zS63) :: Ass.box 58 a3 (cellsS58 zS58 (none, 0)) :: Ass.box 58 a2 (cellsS58 a42 (A43, C44)) :: os) hS (by simp only [cellsS58, cellsS91, encS63, i5])
   obtain ⟨_, p4, H⟩ := b1_out H
   have hS := hS.drew
   refine EW.dr (B := B) [Ass.box 63 a5 (encS63 {zS63 with f0 := 1}), Ass.box 91 a6 (cellsS91 (⟨a42, a0⟩ : S91) (A43, C44)), Ass.box 32 a1 [ia 2, ib a0], Ass.box 63 a4 (encS63 zS63), Ass.box 58 a3 (cellsS58 zS58 (none, 0)), Ass.box 58 a2 (cellsS58 a42 (A43, C44))] [Ro.sl (Kd.int .i32) A43 C44 a42.f3, Ro.sl (Kd.slice kS32) A46 C47 l45] (by kernel_rfl) (by kernel_rfl) ?_
   have hN : Region.noSelect Cd28.r.r.r.r.l.l.ops = true := (by kernel_rfl)
   have hF : freeAll Cd28.r.r.r.r.l.l.ops = true := (by kernel_rfl)
   have hC : Core B [Ass.box 63 a5 (encS63 {zS63 with f0 := 1}), Ass.box 91 a6 (cellsS91 (⟨a42, a0⟩ : S91) (A43, C44)), Ass.box 32 a1 [ia 2, ib a0], Ass.box 63 a4 (encS63 zS63), Ass.box 58 a3 (cellsS58 zS58 (none, 0)), Ass.box 58 a2 (cellsS58 a42 (A43, C44))] [Ro.sl (Kd.int .i32) A43 C44 a42.f3, Ro.sl (Kd.slice kS32) A46 C47 l45] _ := ⟨_, _, hS⟩
   refine ED.quick hN hF hC [1] [2, 4, 5, 6, 8, 9, 30] 4 [(2, pt a2 0), (4, pt a3 0), (5, pt a4 0), (6, pt a1 0), (8, pt a6 0), (9, pt a5 0), (30, pt a1 0)] (bm 5 2) (by kernel_rfl) (by kernel_rfl) ?_
   refine ED.Y hN hF hC 2 3 (bm 5 6) (by kernel_rfl) (by kernel_rfl) rfl (fun _ _ _ hS => YO.loadBox hS 2 rfl 3 0 1 (ia 2) 31 (by kernel_rfl) (by kernel_rfl) (by kernel_rfl) (by kernel_rfl)) ?_
   have hq := task_acts.calls p4 hS
   refine ED.one 0 2 (bm 5 7) (by kernel_rfl) (by kernel_rfl) (by kernel_rfl) (EO.callD 48 [] _ 29 (by kernel_rfl) (by kernel_rfl) (by kernel_rfl) hq ?_)
   rintro v w ⟨rfl, hS⟩
   have hC := hC.again ⟨_, _, hS⟩
   refine ⟨hC, ?_⟩
   refine ED.quick hN hF hC [3, 4] [2, 4, 5, 6, 8, 9, 10] 0 [(2, pt a2 0), (4, pt a3 0), (5, pt a4 0), (6, pt a1 0), (8, pt a6 0), (9, pt a5 0), (10, .func (.func 71) #[] #[])] (bm 5 31) (by kernel_rfl) (by kernel_rfl) ?_
   refine ED.done (by kernel_rfl) ?_
   refine EQ.code ?_
   refine EW.sq (by kernel_rfl) ?_
   refine EW.rg (by kernel_rfl) ?_
   refine EL.quick 2 [2, 4, 5, 6, 8, 9, 10, 34] [(2, pt a2 0), (4, pt a3 0), (5, pt a4 0), (6, pt a1 0), (8, pt a6 0), (9, pt a5 0), (10, .func (.func 71) #[] #[]), (34, .bool (true))] (by kernel_rfl) ?_
   refine EL.done (by kernel_rfl) ?_
   refine EQ.code ?_
   refine EW.cdT (by kernel_rfl) (by kernel_rfl) ?_
   refine EW.sq (by kernel_rfl) ?_
   obtain ⟨b0, p5, H⟩ := b1_out H
   have hS := hS.drew
   refine EW.dr (B := B) [Ass.box 63 a5 (encS63 {zS63 with f0 := 1}), Ass.box 91 a6 (cellsS91 (⟨a42, a0⟩ : S91) (A43, C44)), Ass.box 32 a1 [ia 2, ib a0], Ass.box 58 a2 (cellsS58 a42 (A43, C44))] [Ro.sl (Kd.int .i32) A43 C44 a42.f3, Ro.sl (Kd.slice kS32) A46 C47 l45] (by kernel_rfl) (by kernel_rfl) ?_
   have hN : Region.noSelect Cd28.r.r.r.r.l.r.r.l.l.ops = true := (by kernel_rfl)
   have hF : freeAll Cd28.r.r.r.r.l.r.r.l.l.ops = true := (by kernel_rfl)
   have hC : Core B [Ass.box 63 a5 (encS63 {zS63 with f0 := 1}), Ass.box 91 a6 (cellsS91 (⟨a42, a0⟩ : S91) (A43, C44)), Ass.box 32 a1 [ia 2, ib a0], Ass.box 58 a2 (cellsS58 a42 (A43, C44))] [Ro.sl (Kd.int .i32) A43 C44 a42.f3, Ro.sl (Kd.slice kS32) A46 C47 l45] _ := ⟨_, _, hS.re [5, 3, 3, 3] [] rfl sub_self⟩
   refine ED.quick hN hF hC [0] [4, 5, 8, 9, 35] 5 [(4, pt a3 0), (5, pt a4 0), (8, pt a6 0), (9, pt a5 0), (35, .func (.func 71) #[] #[])] (bm 6 1) (by kernel_rfl) (by kernel_rfl) ?_
   refine ED.Y hN hF hC 1 4 (bm 6 3) (by kernel_rfl) (by kernel_rfl) rfl (fun _ _ _ hS => YO.loadBox hS 1 rfl 91 0 13 (ag (cellsS91 (⟨a42, a0⟩ : S91) (A43, C44))) 36 (by kernel_rfl) (by kernel_rfl) (by kernel_rfl) (by kernel_rfl)) ?_
   refine ED.Y hN hF hC 3 3 (bm 6 11) (by kernel_rfl) (by kernel_rfl) rfl (fun _ _ _ hS => YO.loadBox hS 0 rfl 63 0 3 (ag (encS63 {zS63 with f0 := 1})) 38 (by kernel_rfl) (by kernel_rfl) (by kernel_rfl) (by kernel_rfl)) ?_
   have hS : St B _ (Ass.box 63 a5 (encS63 {zS63 with f0 := 1}) :: Ass.box 91 a6 (cellsS91 (⟨a42, a0⟩ : S91) (A43, C44)) :: Ass.box 32 a1 [ia 2, ib a0] :: Ass.box 63 a4 (encS63 zS63) :: Ass.box 58 a3 (cellsS58 zS58 (none, 0)) :: Ass.box 58 a2 (cellsS58 a42 (A43, C44)) :: os) (Ro.sl (Kd.int .i32) A43 C44 a42.f3 :: Ro.sl (Kd.slice kS32) A46 C47 l45 :: rs) := hS.re [] [] rfl (sub_cons 0 rfl (sub_tail (sub_self)))
   have hq := task_act_pop.calls p5 hS
   refine ED.one 2 2 (bm 6 15) (by kernel_rfl) (by kernel_rfl) (by kernel_rfl) (EO.callD 71 [ag (cellsS91 (⟨a42, a0⟩ : S91) (A43, C44))] _ 37 (by kernel_rfl) (by kernel_rfl) (by kernel_rfl) hq ?_)
   rintro v w ⟨c8, e2, rfl, hS⟩
   have hC := hC.again ⟨_, _, hS.re [5, 3, 3, 3] [] rfl (sub_cons 1 rfl (sub_cons 2 rfl sub_self))⟩
   refine ⟨hC, ?_⟩
   refine ED.one 4 1 (bm 6 31) (by kernel_rfl) (by kernel_rfl) (by kernel_rfl) (EO.storeBox (os' := Ass.box 63 a5 (encS63 {zS63 with f0 := 1}) :: Ass.box 91 a6 (cellsS91 (⟨a42, a0⟩ : S91) (A43, C44)) :: Ass.box 32 a1 [ia 2, ib a0] :: Ass.box 63 a4 (encS63 zS63) :: Ass.box 58 a3 (cellsS58 b0 (c8, e2)) :: Ass.box 58 a2 (cellsS58 a42 (A43, C44)) :: os) hS 4 rfl 58 0 (ag (cellsS58 b0 (c8, e2))) (cellsS58 b0 (c8, e2)) (by kernel_rfl) (by kernel_rfl) (by kernel_rfl) (by kernel_rfl) (by kernel_rfl) (by kernel_rfl) rfl rfl ?_)
   intro w hS
   have hC := hC.again ⟨_, _, hS.re [5, 3, 3, 3] [] rfl (sub_cons 1 rfl (sub_cons 2 rfl sub_self))⟩
   refine ⟨hC, ?_⟩
   refine ED.one 5 0 (bm 6 63) (by kernel_rfl) (by kernel_rfl) (by kernel_rfl) (EO.storeBox (os' := Ass.box 63 a5 (encS63 {zS63 with f0 := 1}) :: Ass.box 91 a6 (cellsS91 (⟨a42, a0⟩ : S91) (A43, C44)) :: Ass.box 32 a1 [ia 2, ib a0] :: Ass.box 63 a4 (encS63 {zS63 with f0 := 1}) :: Ass.box 58 a3 (cellsS58 b0 (c8, e2)) :: Ass.box 58 a2 (cellsS58 a42 (A43, C44)) :: os) hS 3 rfl 63 0 (ag (encS63 {zS63 with f0 := 1})) (encS63 {zS63 with f0 := 1}) (by kernel_rfl) (by kernel_rfl) (by kernel_rfl) (by kernel_rfl) (by kernel_rfl) (by kernel_rfl) rfl rfl ?_)
   intro w hS
   have hC := hC.again ⟨_, _, hS.re [5, 3, 3, 3] [] rfl (sub_cons 1 rfl (sub_cons 2 rfl sub_self))⟩
   refine ⟨hC, ?_⟩
   refine ED.done (by kernel_rfl) ?_
   refine EQ.code ?_
   refine EW.ret (by kernel_rfl) ?_
   refine EQ.ret ?_
   simp only [cellsS58, cellsS91, encS63, Option.some.injEq, Prod.mk.injEq] at H
   obtain ⟨rfl, rfl⟩ := H
   exact EQ.leave2 hS (.cell 4 58) (.cell 5 63) (ag (cellsS58 b0 (c8, e2))) (ag (encS63 {zS63 with f0 := 1})) (by kernel_rfl) ⟨4, 58, a3, (cellsS58 b0 (c8, e2)), 0, 12, rfl, (by kernel_rfl), (by kernel_rfl)⟩ ⟨3, 63, a4, (encS63 {zS63 with f0 := 1}), 0, 3, rfl, (by kernel_rfl), (by kernel_rfl)⟩ ⟨_, rfl, c8, e2, rfl, (hS.re [] [0, 0, 0, 0, 0, 0] rfl (sub_cons 0 rfl (sub_tail (sub_self))))⟩
  rw [if_neg i5] at H
  by_cases i6 : a7 = 3
  ·rw [if_pos i6] at H
   refine EW.keep [2, 4, 5, 6, 8, 9] [(2, pt a2 0), (4, pt a3 0), (5, pt a4 0), (6, pt a1 0), (8, pt a6 0), (9, pt a5 0)] (by kernel_rfl) ?_
   have hS := St.as (os' := Ass.box 63 a5 (encS63 {zS63 with f0 := 1}) :: Ass.box 91 a6 (cellsS91 (⟨a42, a0⟩ : S91) (A43, C44)) :: Ass.box 32 a1 [ia 3, ib a0] :: Ass.box 63 a4 (encS63 zS63) :: Ass.box 58 a3 (cellsS58 zS58 (none, 0)) :: Ass.box 58 a2 (cellsS58 a42 (A43, C44)) :: os) hS (by simp only [cellsS58, cellsS91, encS63, i6])
   obtain ⟨_, p6, H⟩ := b1_out H
   have hS := hS.drew
   refine EW.dr (B := B) [Ass.box 63 a5 (encS63 {zS63 with f0 := 1}), Ass.box 91 a6 (cellsS91 (⟨a42, a0⟩ : S91) (A43, C44)), Ass.box 32 a1 [ia 3, ib a0], Ass.box 63 a4 (encS63 zS63), Ass.box 58 a3 (cellsS58 zS58 (none, 0)), Ass.box 58 a2 (cellsS58 a42 (A43, C44))] [Ro.sl (Kd.int .i32) A43 C44 a42.f3, Ro.sl (Kd.slice kS32) A46 C47 l45] (by kernel_rfl) (by kernel_rfl) ?_
   have hN : Region.noSelect Cd28.r.r.r.r.l.l.ops = true := (by kernel_rfl)
   have hF : freeAll Cd28.r.r.r.r.l.l.ops = true := (by kernel_rfl)
   have hC : Core B [Ass.box 63 a5 (encS63 {zS63 with f0 := 1}), Ass.box 91 a6 (cellsS91 (⟨a42, a0⟩ : S91) (A43, C44)), Ass.box 32 a1 [ia 3, ib a0], Ass.box 63 a4 (encS63 zS63), Ass.box 58 a3 (cellsS58 zS58 (none, 0)), Ass.box 58 a2 (cellsS58 a42 (A43, C44))] [Ro.sl (Kd.int .i32) A43 C44 a42.f3, Ro.sl (Kd.slice kS32) A46 C47 l45] _ := ⟨_, _, hS⟩
   refine ED.quick hN hF hC [1] [2, 4, 5, 6, 8, 9, 30] 4 [(2, pt a2 0), (4, pt a3 0), (5, pt a4 0), (6, pt a1 0), (8, pt a6 0), (9, pt a5 0), (30, pt a1 0)] (bm 5 2) (by kernel_rfl) (by kernel_rfl) ?_
   refine ED.Y hN hF hC 2 3 (bm 5 6) (by kernel_rfl) (by kernel_rfl) rfl (fun _ _ _ hS => YO.loadBox hS 2 rfl 3 0 1 (ia 3) 31 (by kernel_rfl) (by kernel_rfl) (by kernel_rfl) (by kernel_rfl)) ?_
   have hq := task_acts.calls p6 hS
   refine ED.one 0 2 (bm 5 7) (by kernel_rfl) (by kernel_rfl) (by kernel_rfl) (EO.callD 48 [] _ 29 (by kernel_rfl) (by kernel_rfl) (by kernel_rfl) hq ?_)
   rintro v w ⟨rfl, hS⟩
   have hC := hC.again ⟨_, _, hS⟩
   refine ⟨hC, ?_⟩
   refine ED.quick hN hF hC [3, 4] [2, 4, 5, 6, 8, 9, 10] 0 [(2, pt a2 0), (4, pt a3 0), (5, pt a4 0), (6, pt a1 0), (8, pt a6 0), (9, pt a5 0), (10, .func (.func 72) #[] #[])] (bm 5 31) (by kernel_rfl) (by kernel_rfl) ?_
   refine ED.done (by kernel_rfl) ?_
   refine EQ.code ?_
   refine EW.sq (by kernel_rfl) ?_
   refine EW.rg (by kernel_rfl) ?_
   refine EL.quick 2 [2, 4, 5, 6, 8, 9, 10, 34] [(2, pt a2 0), (4, pt a3 0), (5, pt a4 0), (6, pt a1 0), (8, pt a6 0), (9, pt a5 0), (10, .func (.func 72) #[] #[]), (34, .bool (true))] (by kernel_rfl) ?_
   refine EL.done (by kernel_rfl) ?_
   refine EQ.code ?_
   refine EW.cdT (by kernel_rfl) (by kernel_rfl) ?_
   refine EW.sq (by kernel_rfl) ?_
   obtain ⟨b4, p7, H⟩ := b1_out H
   have hS := hS.drew
   refine EW.dr (B := B) [Ass.box 63 a5 (encS63 {zS63 with f0 := 1}), Ass.box 91 a6 (cellsS91 (⟨a42, a0⟩ : S91) (A43, C44)), Ass.box 32 a1 [ia 3, ib a0], Ass.box 58 a2 (cellsS58 a42 (A43, C44))] [Ro.sl (Kd.int .i32) A43 C44 a42.f3, Ro.sl (Kd.slice kS32) A46 C47 l45] (by kernel_rfl) (by kernel_rfl) ?_
   have hN : Region.noSelect Cd28.r.r.r.r.l.r.r.l.l.ops = true := (by kernel_rfl)
   have hF : freeAll Cd28.r.r.r.r.l.r.r.l.l.ops = true := (by kernel_rfl)
   have hC : Core B [Ass.box 63 a5 (encS63 {zS63 with f0 := 1}), Ass.box 91 a6 (cellsS91 (⟨a42, a0⟩ : S91) (A43, C44)), Ass.box 32 a1 [ia 3, ib a0], Ass.box 58 a2 (cellsS58 a42 (A43, C44))] [Ro.sl (Kd.int .i32) A43 C44 a42.f3, Ro.sl (Kd.slice kS32) A46 C47 l45] _ := ⟨_, _, hS.re [5, 3, 3, 3] [] rfl sub_self⟩
   refine ED.quick hN hF hC [0] [4, 5, 8, 9, 35] 5 [(4, pt a3 0), (5, pt a4 0), (8, pt a6 0), (9, pt a5 0), (35, .func (.func 72) #[] #[])] (bm 6 1) (by kernel_rfl) (by kernel_rfl) ?_
   refine ED.Y hN hF hC 1 4 (bm 6 3) (by kernel_rfl) (by kernel_rfl) rfl (fun _ _ _ hS => YO.loadBox hS 1 rfl 91 0 13 (ag (cellsS91 (⟨a42, a0⟩ : S91) (A43, C44))) 36 (by kernel_rfl) (by kernel_rfl) (by kernel_rfl) (by kernel_rfl)) ?_
   refine ED.Y hN hF hC 3 3 (bm 6 11) (by kernel_rfl) (by kernel_rfl) rfl (fun _ _ _ hS => YO.loadBox hS 0 rfl 63 0 3 (ag (encS63 {zS63 with f0 := 1})) 38 (by kernel_rfl) (by kernel_rfl) (by kernel_rfl) (by kernel_rfl)) ?_
   have hS : St B _ (Ass.box 63 a5 (encS63 {zS63 with f0 := 1}) :: Ass.box 91 a6 (cellsS91 (⟨a42, a0⟩ : S91) (A43, C44)) :: Ass.box 32 a1 [ia 3, ib a0] :: Ass.box 63 a4 (encS63 zS63) :: Ass.box 58 a3 (cellsS58 zS58 (none, 0)) :: Ass.box 58 a2 (cellsS58 a42 (A43, C44)) :: os) (Ro.sl (Kd.int .i32) A43 C44 a42.f3 :: Ro.sl (Kd.slice kS32) A46 C47 l45 :: rs) := hS.re [] [] rfl (sub_cons 0 rfl (sub_tail (sub_self)))
   have hq := task_act_dup.calls p7 hS
   refine ED.one 2 2 (bm 6 15) (by kernel_rfl) (by kernel_rfl) (by kernel_rfl) (EO.callD 72 [ag (cellsS91 (⟨a42, a0⟩ : S91) (A43, C44))] _ 37 (by kernel_rfl) (by kernel_rfl) (by kernel_rfl) hq ?_)
   rintro v w ⟨c9, e3, rfl, hS⟩
   have hC := hC.again ⟨_, _, hS.re [5, 3, 3, 3] [] rfl (sub_cons 1 rfl (sub_cons 2 rfl sub_self))⟩
   refine ⟨hC, ?_⟩
   refine ED.one 4 1 (bm 6 31) (by kernel_rfl) (by kernel_rfl) (by kernel_rfl) (EO.storeBox (os' := Ass.box 63 a5 (encS63 {zS63 with f0 := 1}) :: Ass.box 91 a6 (cellsS91 (⟨a42, a0⟩ : S91) (A43, C44)) :: Ass.box 32 a1 [ia 3, ib a0] :: Ass.box 63 a4 (encS63 zS63) :: Ass.box 58 a3 (cellsS58 b4 (c9, e3)) :: Ass.box 58 a2 (cellsS58 a42 (A43, C44)) :: os) hS 4 rfl 58 0 (ag (cellsS58 b4 (c9, e3))) (cellsS58 b4 (c9, e3)) (by kernel_rfl) (by kernel_rfl) (by kernel_rfl) (by kernel_rfl) (by kernel_rfl) (by kernel_rfl) rfl rfl ?_)
   intro w hS
   have hC := hC.again ⟨_, _, hS.re [5, 3, 3, 3] [] rfl (sub_cons 1 rfl (sub_cons 2 rfl sub_self))⟩
   refine ⟨hC, ?_⟩
   refine ED.one 5 0 (bm 6 63) (by kernel_rfl) (by kernel_rfl) (by kernel_rfl) (EO.storeBox (os' := Ass.box 63 a5 (encS63 {zS63 with f0 := 1}) :: Ass.box 91 a6 (cellsS91 (⟨a42, a0⟩ : S91) (A43, C44)) :: Ass.box 32 a1 [ia 3, ib a0] :: Ass.box 63 a4 (encS63 {zS63 with f0 := 1}) :: Ass.box 58 a3 (cellsS58 b4 (c9, e3)) :: Ass.box 58 a2 (cellsS58 a42 (A43, C44)) :: os) hS 3 rfl 63 0 (ag (encS63 {zS63 with f0 := 1})) (encS63 {zS63 with f0 := 1}) (by kernel_rfl) (by kernel_rfl) (by kernel_rfl) (by kernel_rfl) (by kernel_rfl) (by kernel_rfl) rfl rfl ?_)
   intro w hS
   have hC := hC.again ⟨_, _, hS.re [5, 3, 3, 3] [] rfl (sub_cons 1 rfl (sub_cons 2 rfl sub_self))⟩
   refine ⟨hC, ?_⟩
   refine ED.done (by kernel_rfl) ?_
   refine EQ.code ?_
   refine EW.ret (by kernel_rfl) ?_
   refine EQ.ret ?_
   simp only [cellsS58, cellsS91, encS63, Option.some.injEq, Prod.mk.injEq] at H
   obtain ⟨rfl, rfl⟩ := H
   exact EQ.leave2 hS (.cell 4 58) (.cell 5 63) (ag (cellsS58 b4 (c9, e3))) (ag (encS63 {zS63 with f0 := 1})) (by kernel_rfl) ⟨4, 58, a3, (cellsS58 b4 (c9, e3)), 0, 12, rfl, (by kernel_rfl), (by kernel_rfl)⟩ ⟨3, 63, a4, (encS63 {zS63 with f0 := 1}), 0, 3, rfl, (by kernel_rfl), (by kernel_rfl)⟩ ⟨_, rfl, c9, e3, rfl, (hS.re [] [0, 0, 0, 0, 0, 0] rfl (sub_cons 0 rfl (sub_tail (sub_self))))⟩
  rw [if_neg i6] at H
  by_cases i7 : a7 = 10
  ·rw [if_pos i7] at H
   refine EW.keep [2, 4, 5, 6, 8, 9] [(2, pt a2 0), (4, pt a3 0), (5, pt a4 0), (6, pt a1 0), (8, pt a6 0), (9, pt a5 0)] (by kernel_rfl) ?_
   have hS := St.as (os' := Ass.box 63 a5 (encS63 {zS63 with f0 := 1}) :: Ass.box 91 a6 (cellsS91 (⟨a42, a0⟩ : S91) (A43, C44)) :: Ass.box 32 a1 [ia 10, ib a0] :: Ass.box 63 a4 (encS63 zS63) :: Ass.box 58 a3 (cellsS58 zS58 (none, 0)) :: Ass.box 58 a2 (cellsS58 a42 (A43, C44)) :: os) hS (by simp only [cellsS58, cellsS91, encS63, i7])
   obtain ⟨_, p8, H⟩ := b1_out H
   have hS := hS.drew
   refine EW.dr (B := B) [Ass.box 63 a5 (encS63 {zS63 with f0 := 1}), Ass.box 91 a6 (cellsS91 (⟨a42, a0⟩ : S91) (A43, C44)), Ass.box 32 a1 [ia 10, ib a0], Ass.box 63 a4 (encS63 zS63), Ass.box 58 a3 (cellsS58 zS58 (none, 0)), Ass.box 58 a2 (cellsS58 a42 (A43, C44))] [Ro.sl (Kd.int .i32) A43 C44 a42.f3, Ro.sl (Kd.slice kS32) A46 C47 l45] (by kernel_rfl) (by kernel_rfl) ?_
   have hN : Region.noSelect Cd28.r.r.r.r.l.l.ops = true := (by kernel_rfl)
   have hF : freeAll Cd28.r.r.r.r.l.l.ops = true := (by kernel_rfl)
   have hC : Core B [Ass.box 63 a5 (encS63 {zS63 with f0 := 1}), Ass.box 91 a6 (cellsS91 (⟨a42, a0⟩ : S91) (A43, C44)), Ass.box 32 a1 [ia 10, ib a0], Ass.box 63 a4 (encS63 zS63), Ass.box 58 a3 (cellsS58 zS58 (none, 0)), Ass.box 58 a2 (cellsS58 a42 (A43, C44))] [Ro.sl (Kd.int .i32) A43 C44 a42.f3, Ro.sl (Kd.slice kS32) A46 C47 l45] _ := ⟨_, _, hS⟩
   refine ED.quick hN hF hC [1] [2, 4, 5, 6, 8, 9, 30] 4 [(2, pt a2 0), (4, pt a3 0), (5, pt a4 0), (6, pt a1 0), (8, pt a6 0), (9, pt a5 0), (30, pt a1 0)] (bm 5 2) (by kernel_rfl) (by kernel_rfl) ?_
   refine ED.Y hN hF hC 2 3 (bm 5 6) (by kernel_rfl) (by kernel_rfl) rfl (fun _ _ _ hS => YO.loadBox hS 2 rfl 3 0 1 (ia 10) 31 (by kernel_rfl) (by kernel_rfl) (by kernel_rfl) (by kernel_rfl)) ?_
   have hq := task_acts.calls p8 hS
   refine ED.one 0 2 (bm 5 7) (by kernel_rfl) (by kernel_rfl) (by kernel_rfl) (EO.callD 48 [] _ 29 (by kernel_rfl) (by kernel_rfl) (by kernel_rfl) hq ?_)
   rintro v w ⟨rfl, hS⟩
   have hC := hC.again ⟨_, _, hS⟩
   refine ⟨hC, ?_⟩
   refine ED.quick hN hF hC [3, 4] [2, 4, 5, 6, 8, 9, 10] 0 [(2, pt a2 0), (4, pt a3 0), (5, pt a4 0), (6, pt a1 0), (8, pt a6 0), (9, pt a5 0), (10, .func (.func 73) #[] #[])] (bm 5 31) (by kernel_rfl) (by kernel_rfl) ?_
   refine ED.done (by kernel_rfl) ?_
   refine EQ.code ?_
   refine EW.sq (by kernel_rfl) ?_
   refine EW.rg (by kernel_rfl) ?_
   refine EL.quick 2 [2, 4, 5, 6, 8, 9, 10, 34] [(2, pt a2 0), (4, pt a3 0), (5, pt a4 0), (6, pt a1 0), (8, pt a6 0), (9, pt a5 0), (10, .func (.func 73) #[] #[]), (34, .bool (true))] (by kernel_rfl) ?_
   refine EL.done (by kernel_rfl) ?_
   refine EQ.code ?_
   refine EW.cdT (by kernel_rfl) (by kernel_rfl) ?_
   refine EW.sq (by kernel_rfl) ?_
   obtain ⟨b5, p9, H⟩ := b1_out H
   have hS := hS.drew
   refine EW.dr (B := B) [Ass.box 63 a5 (encS63 {zS63 with f0 := 1}), Ass.box 91 a6 (cellsS91 (⟨a42, a0⟩ : S91) (A43, C44)), Ass.box 32 a1 [ia 10, ib a0], Ass.box 58 a2 (cellsS58 a42 (A43, C44))] [Ro.sl (Kd.int .i32) A43 C44 a42.f3, Ro.sl (Kd.slice kS32) A46 C47 l45] (by kernel_rfl) (by kernel_rfl) ?_
   have hN : Region.noSelect Cd28.r.r.r.r.l.r.r.l.l.ops = true := (by kernel_rfl)
   have hF : freeAll Cd28.r.r.r.r.l.r.r.l.l.ops = true := (by kernel_rfl)
   have hC : Core B [Ass.box 63 a5 (encS63 {zS63 with f0 := 1}), Ass.box 91 a6 (cellsS91 (⟨a42, a0⟩ : S91) (A43, C44)), Ass.box 32 a1 [ia 10, ib a0], Ass.box 58 a2 (cellsS58 a42 (A43, C44))] [Ro.sl (Kd.int .i32) A43 C44 a42.f3, Ro.sl (Kd.slice kS32) A46 C47 l45] _ := ⟨_, _, hS.re [5, 3, 3, 3] [] rfl sub_self⟩
   refine ED.quick hN hF hC [0] [4, 5, 8, 9, 35] 5 [(4, pt a3 0), (5, pt a4 0), (8, pt a6 0), (9, pt a5 0), (35, .func (.func 73) #[] #[])] (bm 6 1) (by kernel_rfl) (by kernel_rfl) ?_
   refine ED.Y hN hF hC 1 4 (bm 6 3) (by kernel_rfl) (by kernel_rfl) rfl (fun _ _ _ hS => YO.loadBox hS 1 rfl 91 0 13 (ag (cellsS91 (⟨a42, a0⟩ : S91) (A43, C44))) 36 (by kernel_rfl) (by kernel_rfl) (by kernel_rfl) (by kernel_rfl)) ?_
   refine ED.Y hN hF hC 3 3 (bm 6 11) (by kernel_rfl) (by kernel_rfl) rfl (fun _ _ _ hS => YO.loadBox hS 0 rfl 63 0 3 (ag (encS63 {zS63 with f0 := 1})) 38 (by kernel_rfl) (by kernel_rfl) (by kernel_rfl) (by kernel_rfl)) ?_
   have hS : St B _ (Ass.box 63 a5 (encS63 {zS63 with f0 := 1}) :: Ass.box 91 a6 (cellsS91 (⟨a42, a0⟩ : S91) (A43, C44)) :: Ass.box 32 a1 [ia 10, ib a0] :: Ass.box 63 a4 (encS63 zS63) :: Ass.box 58 a3 (cellsS58 zS58 (none, 0)) :: Ass.box 58 a2 (cellsS58 a42 (A43, C44)) :: os) (Ro.sl (Kd.int .i32) A43 C44 a42.f3 :: Ro.sl (Kd.slice kS32) A46 C47 l45 :: rs) := hS.re [] [] rfl (sub_cons 0 rfl (sub_tail (sub_self)))
   have hq := task_act_jump.calls p9 hS
   refine ED.one 2 2 (bm 6 15) (by kernel_rfl) (by kernel_rfl) (by kernel_rfl) (EO.callD 73 [ag (cellsS91 (⟨a42, a0⟩ : S91) (A43, C44))] _ 37 (by kernel_rfl) (by kernel_rfl) (by kernel_rfl) hq ?_)
   rintro v w ⟨d0, e4, rfl, hS⟩
   have hC := hC.again ⟨_, _, hS.re [5, 3, 3, 3] [] rfl (sub_cons 1 rfl (sub_cons 2 rfl sub_self))⟩
   refine ⟨hC, ?_⟩
   refine ED.one 4 1 (bm 6 31) (by kernel_rfl) (by kernel_rfl) (by kernel_rfl) (EO.storeBox (os' := Ass.box 63 a5 (encS63 {zS63 with f0 := 1}) :: Ass.box 91 a6 (cellsS91 (⟨a42, a0⟩ : S91) (A43, C44)) :: Ass.box 32 a1 [ia 10, ib a0] :: Ass.box 63 a4 (encS63 zS63) :: Ass.box 58 a3 (cellsS58 b5 (d0, e4)) :: Ass.box 58 a2 (cellsS58 a42 (A43, C44)) :: os) hS 4 rfl 58 0 (ag (cellsS58 b5 (d0, e4))) (cellsS58 b5 (d0, e4)) (by kernel_rfl) (by kernel_rfl) (by kernel_rfl) (by kernel_rfl) (by kernel_rfl) (by kernel_rfl) rfl rfl ?_)
   intro w hS
   have hC := hC.again ⟨_, _, hS.re [5, 3, 3, 3] [] rfl (sub_cons 1 rfl (sub_cons 2 rfl sub_self))⟩
   refine ⟨hC, ?_⟩
   refine ED.one 5 0 (bm 6 63) (by kernel_rfl) (by kernel_rfl) (by kernel_rfl) (EO.storeBox (os' := Ass.box 63 a5 (encS63 {zS63 with f0 := 1}) :: Ass.box 91 a6 (cellsS91 (⟨a42, a0⟩ : S91) (A43, C44)) :: Ass.box 32 a1 [ia 10, ib a0] :: Ass.box 63 a4 (encS63 {zS63 with f0 := 1}) :: Ass.box 58 a3 (cellsS58 b5 (d0, e4)) :: Ass.box 58 a2 (cellsS58 a42 (A43, C44)) :: os) hS 3 rfl 63 0 (ag (encS63 {zS63 with f0 := 1})) (encS63 {zS63 with f0 := 1}) (by kernel_rfl) (by kernel_rfl) (by kernel_rfl) (by kernel_rfl) (by kernel_rfl) (by kernel_rfl) rfl rfl ?_)
   intro w hS
   have hC := hC.again ⟨_, _, hS.re [5, 3, 3, 3] [] rfl (sub_cons 1 rfl (sub_cons 2 rfl sub_self))⟩
   refine ⟨hC, ?_⟩
   refine ED.done (by kernel_rfl) ?_
   refine EQ.code ?_
   refine EW.ret (by kernel_rfl) ?_
   refine EQ.ret ?_
   simp only [cellsS58, cellsS91, encS63, Option.some.injEq, Prod.mk.injEq] at H
   obtain ⟨rfl, rfl⟩ := H
   exact EQ.leave2 hS (.cell 4 58) (.cell 5 63) (ag (cellsS58 b5 (d0, e4))) (ag (encS63 {zS63 with f0 := 1})) (by kernel_rfl) ⟨4, 58, a3, (cellsS58 b5 (d0, e4)), 0, 12, rfl, (by kernel_rfl), (by kernel_rfl)⟩ ⟨3, 63, a4, (encS63 {zS63 with f0 := 1}), 0, 3, rfl, (by kernel_rfl), (by kernel_rfl)⟩ ⟨_, rfl, d0, e4, rfl, (hS.re [] [0, 0, 0, 0, 0, 0] rfl (sub_cons 0 rfl (sub_tail (sub_self))))⟩
  rw [if_neg i7] at H
  by_cases i8 : a7 = 11
  ·rw [if_pos i8] at H
   refine EW.keep [2, 4, 5, 6, 8, 9] [(2, pt a2 0), (4, pt a3 0), (5, pt a4 0), (6, pt a1 0), (8, pt a6 0), (9, pt a5 0)] (by kernel_rfl) ?_
   have hS := St.as (os' := Ass.box 63 a5 (encS63 {zS63 with f0 := 1}) :: Ass.box 91 a6 (cellsS91 (⟨a42, a0⟩ : S91) (A43, C44)) :: Ass.box 32 a1 [ia 11, ib a0] :: Ass.box 63 a4 (encS63 zS63) :: Ass.box 58 a3 (cellsS58 zS58 (none, 0)) :: Ass.box 58 a2 (cellsS58 a42 (A43, C44)) :: os) hS (by simp only [cellsS58, cellsS91, encS63, i8])
   obtain ⟨_, q0, H⟩ := b1_out H
   have hS := hS.drew
   refine EW.dr (B := B) [Ass.box 63 a5 (encS63 {zS63 with f0 := 1}), Ass.box 91 a6 (cellsS91 (⟨a42, a0⟩ : S91) (A43, C44)), Ass.box 32 a1 [ia 11, ib a0], Ass.box 63 a4 (encS63 zS63), Ass.box 58 a3 (cellsS58 zS58 (none, 0)), Ass.box 58 a2 (cellsS58 a42 (A43, C44))] [Ro.sl (Kd.int .i32) A43 C44 a42.f3, Ro.sl (Kd.slice kS32) A46 C47 l45] (by kernel_rfl) (by kernel_rfl) ?_
   have hN : Region.noSelect Cd28.r.r.r.r.l.l.ops = true := (by kernel_rfl)
   have hF : freeAll Cd28.r.r.r.r.l.l.ops = true := (by kernel_rfl)
   have hC : Core B [Ass.box 63 a5 (encS63 {zS63 with f0 := 1}), Ass.box 91 a6 (cellsS91 (⟨a42, a0⟩ : S91) (A43, C44)), Ass.box 32 a1 [ia 11, ib a0], Ass.box 63 a4 (encS63 zS63), Ass.box 58 a3 (cellsS58 zS58 (none, 0)), Ass.box 58 a2 (cellsS58 a42 (A43, C44))] [Ro.sl (Kd.int .i32) A43 C44 a42.f3, Ro.sl (Kd.slice kS32) A46 C47 l45] _ := ⟨_, _, hS⟩
   refine ED.quick hN hF hC [1] [2, 4, 5, 6, 8, 9, 30] 4 [(2, pt a2 0), (4, pt a3 0), (5, pt a4 0), (6, pt a1 0), (8, pt a6 0), (9, pt a5 0), (30, pt a1 0)] (bm 5 2) (by kernel_rfl) (by kernel_rfl) ?_
   refine ED.Y hN hF hC 2 3 (bm 5 6) (by kernel_rfl) (by kernel_rfl) rfl (fun _ _ _ hS => YO.loadBox hS 2 rfl 3 0 1 (ia 11) 31 (by kernel_rfl) (by kernel_rfl) (by kernel_rfl) (by kernel_rfl)) ?_
   have hq := task_acts.calls q0 hS
   refine ED.one 0 2 (bm 5 7) (by kernel_rfl) (by kernel_rfl) (by kernel_rfl) (EO.callD 48 [] _ 29 (by kernel_rfl) (by kernel_rfl) (by kernel_rfl) hq ?_)
   rintro v w ⟨rfl, hS⟩
   have hC := hC.again ⟨_, _, hS⟩
   refine ⟨hC, ?_⟩
   refine ED.quick hN hF hC [3, 4] [2, 4, 5, 6, 8, 9, 10] 0 [(2, pt a2 0), (4, pt a3 0), (5, pt a4 0), (6, pt a1 0), (8, pt a6 0), (9, pt a5 0), (10, .func (.func 74) #[] #[])] (bm 5 31) (by kernel_rfl) (by kernel_rfl) ?_
   refine ED.done (by kernel_rfl) ?_
   refine EQ.code ?_
   refine EW.sq (by kernel_rfl) ?_
   refine EW.rg (by kernel_rfl) ?_
   refine EL.quick 2 [2, 4, 5, 6, 8, 9, 10, 34] [(2, pt a2 0), (4, pt a3 0), (5, pt a4 0), (6, pt a1 0), (8, pt a6 0), (9, pt a5 0), (10, .func (.func 74) #[] #[]), (34, .bool (true))] (by kernel_rfl) ?_
   refine EL.done (by kernel_rfl) ?_
   refine EQ.code ?_
   refine EW.cdT (by kernel_rfl) (by kernel_rfl) ?_
   refine EW.sq (by kernel_rfl) ?_
   obtain ⟨b6, q1, H⟩ := b1_out H
   have hS := hS.drew
   refine EW.dr (B := B) [Ass.box 63 a5 (encS63 {zS63 with f0 := 1}), Ass.box 91 a6 (cellsS91 (⟨a42, a0⟩ : S91) (A43, C44)), Ass.box 32 a1 [ia 11, ib a0], Ass.box 58 a2 (cellsS58 a42 (A43, C44))] [Ro.sl (Kd.int .i32) A43 C44 a42.f3, Ro.sl (Kd.slice kS32) A46 C47 l45] (by kernel_rfl) (by kernel_rfl) ?_
   have hN : Region.noSelect Cd28.r.r.r.r.l.r.r.l.l.ops = true := (by kernel_rfl)
   have hF : freeAll Cd28.r.r.r.r.l.r.r.l.l.ops = true := (by kernel_rfl)
   have hC : Core B [Ass.box 63 a5 (encS63 {zS63 with f0 := 1}), Ass.box 91 a6 (cellsS91 (⟨a42, a0⟩ : S91) (A43, C44)), Ass.box 32 a1 [ia 11, ib a0], Ass.box 58 a2 (cellsS58 a42 (A43, C44))] [Ro.sl (Kd.int .i32) A43 C44 a42.f3, Ro.sl (Kd.slice kS32) A46 C47 l45] _ := ⟨_, _, hS.re [5, 3, 3, 3] [] rfl sub_self⟩
   refine ED.quick hN hF hC [0] [4, 5, 8, 9, 35] 5 [(4, pt a3 0), (5, pt a4 0), (8, pt a6 0), (9, pt a5 0), (35, .func (.func 74) #[] #[])] (bm 6 1) (by kernel_rfl) (by kernel_rfl) ?_
   refine ED.Y hN hF hC 1 4 (bm 6 3) (by kernel_rfl) (by kernel_rfl) rfl (fun _ _ _ hS => YO.loadBox hS 1 rfl 91 0 13 (ag (cellsS91 (⟨a42, a0⟩ : S91) (A43, C44))) 36 (by kernel_rfl) (by kernel_rfl) (by kernel_rfl) (by kernel_rfl)) ?_
   refine ED.Y hN hF hC 3 3 (bm 6 11) (by kernel_rfl) (by kernel_rfl) rfl (fun _ _ _ hS => YO.loadBox hS 0 rfl 63 0 3 (ag (encS63 {zS63 with f0 := 1})) 38 (by kernel_rfl) (by kernel_rfl) (by kernel_rfl) (by kernel_rfl)) ?_
   have hS : St B _ (Ass.box 63 a5 (encS63 {zS63 with f0 := 1}) :: Ass.box 91 a6 (cellsS91 (⟨a42, a0⟩ : S91) (A43, C44)) :: Ass.box 32 a1 [ia 11, ib a0] :: Ass.box 63 a4 (encS63 zS63) :: Ass.box 58 a3 (cellsS58 zS58 (none, 0)) :: Ass.box 58 a2 (cellsS58 a42 (A43, C44)) :: os) (Ro.sl (Kd.int .i32) A43 C44 a42.f3 :: Ro.sl (Kd.slice kS32) A46 C47 l45 :: rs) := hS.re [] [] rfl (sub_cons 0 rfl (sub_tail (sub_self)))
   have hq := task_act_jumpZ.calls q1 hS
   refine ED.one 2 2 (bm 6 15) (by kernel_rfl) (by kernel_rfl) (by kernel_rfl) (EO.callD 74 [ag (cellsS91 (⟨a42, a0⟩ : S91) (A43, C44))] _ 37 (by kernel_rfl) (by kernel_rfl) (by kernel_rfl) hq ?_)
   rintro v w ⟨d1, e5, rfl, hS⟩
   have hC := hC.again ⟨_, _, hS.re [5, 3, 3, 3] [] rfl (sub_cons 1 rfl (sub_cons 2 rfl sub_self))⟩
   refine ⟨hC, ?_⟩
   refine ED.one 4 1 (bm 6 31) (by kernel_rfl) (by kernel_rfl) (by kernel_rfl) (EO.storeBox (os' := Ass.box 63 a5 (encS63 {zS63 with f0 := 1}) :: Ass.box 91 a6 (cellsS91 (⟨a42, a0⟩ : S91) (A43, C44)) :: Ass.box 32 a1 [ia 11, ib a0] :: Ass.box 63 a4 (encS63 zS63) :: Ass.box 58 a3 (cellsS58 b6 (d1, e5)) :: Ass.box 58 a2 (cellsS58 a42 (A43, C44)) :: os) hS 4 rfl 58 0 (ag (cellsS58 b6 (d1, e5))) (cellsS58 b6 (d1, e5)) (by kernel_rfl) (by kernel_rfl) (by kernel_rfl) (by kernel_rfl) (by kernel_rfl) (by kernel_rfl) rfl rfl ?_)
   intro w hS
   have hC := hC.again ⟨_, _, hS.re [5, 3, 3, 3] [] rfl (sub_cons 1 rfl (sub_cons 2 rfl sub_self))⟩
   refine ⟨hC, ?_⟩
   refine ED.one 5 0 (bm 6 63) (by kernel_rfl) (by kernel_rfl) (by kernel_rfl) (EO.storeBox (os' := Ass.box 63 a5 (encS63 {zS63 with f0 := 1}) :: Ass.box 91 a6 (cellsS91 (⟨a42, a0⟩ : S91) (A43, C44)) :: Ass.box 32 a1 [ia 11, ib a0] :: Ass.box 63 a4 (encS63 {zS63 with f0 := 1}) :: Ass.box 58 a3 (cellsS58 b6 (d1, e5)) :: Ass.box 58 a2 (cellsS58 a42 (A43, C44)) :: os) hS 3 rfl 63 0 (ag (encS63 {zS63 with f0 := 1})) (encS63 {zS63 with f0 := 1}) (by kernel_rfl) (by kernel_rfl) (by kernel_rfl) (by kernel_rfl) (by kernel_rfl) (by kernel_rfl) rfl rfl ?_)
   intro w hS
   have hC := hC.again ⟨_, _, hS.re [5, 3, 3, 3] [] rfl (sub_cons 1 rfl (sub_cons 2 rfl sub_self))⟩
   refine ⟨hC, ?_⟩
   refine ED.done (by kernel_rfl) ?_
   refine EQ.code ?_
   refine EW.ret (by kernel_rfl) ?_
   refine EQ.ret ?_
   simp only [cellsS58, cellsS91, encS63, Option.some.injEq, Prod.mk.injEq] at H
   obtain ⟨rfl, rfl⟩ := H
   exact EQ.leave2 hS (.cell 4 58) (.cell 5 63) (ag (cellsS58 b6 (d1, e5))) (ag (encS63 {zS63 with f0 := 1})) (by kernel_rfl) ⟨4, 58, a3, (cellsS58 b6 (d1, e5)), 0, 12, rfl, (by kernel_rfl), (by kernel_rfl)⟩ ⟨3, 63, a4, (encS63 {zS63 with f0 := 1}), 0, 3, rfl, (by kernel_rfl), (by kernel_rfl)⟩ ⟨_, rfl, d1, e5, rfl, (hS.re [] [0, 0, 0, 0, 0, 0] rfl (sub_cons 0 rfl (sub_tail (sub_self))))⟩
  rw [if_neg i8] at H
  by_cases i9 : a7 = 12
  ·rw [if_pos i9] at H
   refine EW.keep [2, 4, 5, 6, 8, 9] [(2, pt a2 0), (4, pt a3 0), (5, pt a4 0), (6, pt a1 0), (8, pt a6 0), (9, pt a5 0)] (by kernel_rfl) ?_
   have hS := St.as (os' := Ass.box 63 a5 (encS63 {zS63 with f0 := 1}) :: Ass.box 91 a6 (cellsS91 (⟨a42, a0⟩ : S91) (A43, C44)) :: Ass.box 32 a1 [ia 12, ib a0] :: Ass.box 63 a4 (encS63 zS63) :: Ass.box 58 a3 (cellsS58 zS58 (none, 0)) :: Ass.box 58 a2 (cellsS58 a42 (A43, C44)) :: os) hS (by simp only [cellsS58, cellsS91, encS63, i9])
   obtain ⟨_, q2, H⟩ := b1_out H
   have hS := hS.drew
   refine EW.dr (B := B) [Ass.box 63 a5 (encS63 {zS63 with f0 := 1}), Ass.box 91 a6 (cellsS91 (⟨a42, a0⟩ : S91) (A43, C44)), Ass.box 32 a1 [ia 12, ib a0], Ass.box 63 a4 (encS63 zS63), Ass.box 58 a3 (cellsS58 zS58 (none, 0)), Ass.box 58 a2 (cellsS58 a42 (A43, C44))] [Ro.sl (Kd.int .i32) A43 C44 a42.f3, Ro.sl (Kd.slice kS32) A46 C47 l45] (by kernel_rfl) (by kernel_rfl) ?_
   have hN : Region.noSelect Cd28.r.r.r.r.l.l.ops = true := (by kernel_rfl)
   have hF : freeAll Cd28.r.r.r.r.l.l.ops = true := (by kernel_rfl)
   have hC : Core B [Ass.box 63 a5 (encS63 {zS63 with f0 := 1}), Ass.box 91 a6 (cellsS91 (⟨a42, a0⟩ : S91) (A43, C44)), Ass.box 32 a1 [ia 12, ib a0], Ass.box 63 a4 (encS63 zS63), Ass.box 58 a3 (cellsS58 zS58 (none, 0)), Ass.box 58 a2 (cellsS58 a42 (A43, C44))] [Ro.sl (Kd.int .i32) A43 C44 a42.f3, Ro.sl (Kd.slice kS32) A46 C47 l45] _ := ⟨_, _, hS⟩
   refine ED.quick hN hF hC [1] [2, 4, 5, 6, 8, 9, 30] 4 [(2, pt a2 0), (4, pt a3 0), (5, pt a4 0), (6, pt a1 0), (8, pt a6 0), (9, pt a5 0), (30, pt a1 0)] (bm 5 2) (by kernel_rfl) (by kernel_rfl) ?_
   refine ED.Y hN hF hC 2 3 (bm 5 6) (by kernel_rfl) (by kernel_rfl) rfl (fun _ _ _ hS => YO.loadBox hS 2 rfl 3 0 1 (ia 12) 31 (by kernel_rfl) (by kernel_rfl) (by kernel_rfl) (by kernel_rfl)) ?_
   have hq := task_acts.calls q2 hS
   refine ED.one 0 2 (bm 5 7) (by kernel_rfl) (by kernel_rfl) (by kernel_rfl) (EO.callD 48 [] _ 29 (by kernel_rfl) (by kernel_rfl) (by kernel_rfl) hq ?_)
   rintro v w ⟨rfl, hS⟩
   have hC := hC.again ⟨_, _, hS⟩
   refine ⟨hC, ?_⟩
   refine ED.quick hN hF hC [3, 4] [2, 4, 5, 6, 8, 9, 10] 0 [(2, pt a2 0), (4, pt a3 0), (5, pt a4 0), (6, pt a1 0), (8, pt a6 0), (9, pt a5 0), (10, .func (.func 75) #[] #[])] (bm 5 31) (by kernel_rfl) (by kernel_rfl) ?_
   refine ED.done (by kernel_rfl) ?_
   refine EQ.code ?_
   refine EW.sq (by kernel_rfl) ?_
   refine EW.rg (by kernel_rfl) ?_
   refine EL.quick 2 [2, 4, 5, 6, 8, 9, 10, 34] [(2, pt a2 0), (4, pt a3 0), (5, pt a4 0), (6, pt a1 0), (8, pt a6 0), (9, pt a5 0), (10, .func (.func 75) #[] #[]), (34, .bool (true))] (by kernel_rfl) ?_
   refine EL.done (by kernel_rfl) ?_
   refine EQ.code ?_
   refine EW.cdT (by kernel_rfl) (by kernel_rfl) ?_
   refine EW.sq (by kernel_rfl) ?_
   obtain ⟨b7, q3, H⟩ := b1_out H
   have hS := hS.drew
   refine EW.dr (B := B) [Ass.box 63 a5 (encS63 {zS63 with f0 := 1}), Ass.box 91 a6 (cellsS91 (⟨a42, a0⟩ : S91) (A43, C44)), Ass.box 32 a1 [ia 12, ib a0], Ass.box 58 a2 (cellsS58 a42 (A43, C44))] [Ro.sl (Kd.int .i32) A43 C44 a42.f3, Ro.sl (Kd.slice kS32) A46 C47 l45] (by kernel_rfl) (by kernel_rfl) ?_
   have hN : Region.noSelect Cd28.r.r.r.r.l.r.r.l.l.ops = true := (by kernel_rfl)
   have hF : freeAll Cd28.r.r.r.r.l.r.r.l.l.ops = true := (by kernel_rfl)
   have hC : Core B [Ass.box 63 a5 (encS63 {zS63 with f0 := 1}), Ass.box 91 a6 (cellsS91 (⟨a42, a0⟩ : S91) (A43, C44)), Ass.box 32 a1 [ia 12, ib a0], Ass.box 58 a2 (cellsS58 a42 (A43, C44))] [Ro.sl (Kd.int .i32) A43 C44 a42.f3, Ro.sl (Kd.slice kS32) A46 C47 l45] _ := ⟨_, _, hS.re [5, 3, 3, 3] [] rfl sub_self⟩
   refine ED.quick hN hF hC [0] [4, 5, 8, 9, 35] 5 [(4, pt a3 0), (5, pt a4 0), (8, pt a6 0), (9, pt a5 0), (35, .func (.func 75) #[] #[])] (bm 6 1) (by kernel_rfl) (by kernel_rfl) ?_
   refine ED.Y hN hF hC 1 4 (bm 6 3) (by kernel_rfl) (by kernel_rfl) rfl (fun _ _ _ hS => YO.loadBox hS 1 rfl 91 0 13 (ag (cellsS91 (⟨a42, a0⟩ : S91) (A43, C44))) 36 (by kernel_rfl) (by kernel_rfl) (by kernel_rfl) (by kernel_rfl)) ?_
   refine ED.Y hN hF hC 3 3 (bm 6 11) (by kernel_rfl) (by kernel_rfl) rfl (fun _ _ _ hS => YO.loadBox hS 0 rfl 63 0 3 (ag (encS63 {zS63 with f0 := 1})) 38 (by kernel_rfl) (by kernel_rfl) (by kernel_rfl) (by kernel_rfl)) ?_
   have hS : St B _ (Ass.box 63 a5 (encS63 {zS63 with f0 := 1}) :: Ass.box 91 a6 (cellsS91 (⟨a42, a0⟩ : S91) (A43, C44)) :: Ass.box 32 a1 [ia 12, ib a0] :: Ass.box 63 a4 (encS63 zS63) :: Ass.box 58 a3 (cellsS58 zS58 (none, 0)) :: Ass.box 58 a2 (cellsS58 a42 (A43, C44)) :: os) (Ro.sl (Kd.int .i32) A43 C44 a42.f3 :: Ro.sl (Kd.slice kS32) A46 C47 l45 :: rs) := hS.re [] [] rfl (sub_cons 0 rfl (sub_tail (sub_self)))
   have hq := task_act_load.calls q3 hS
   refine ED.one 2 2 (bm 6 15) (by kernel_rfl) (by kernel_rfl) (by kernel_rfl) (EO.callD 75 [ag (cellsS91 (⟨a42, a0⟩ : S91) (A43, C44))] _ 37 (by kernel_rfl) (by kernel_rfl) (by kernel_rfl) hq ?_)
   rintro v w ⟨d2, e6, rfl, hS⟩
   have hC := hC.again ⟨_, _, hS.re [5, 3, 3, 3] [] rfl (sub_cons 1 rfl (sub_cons 2 rfl sub_self))⟩
   refine ⟨hC, ?_⟩
   refine ED.one 4 1 (bm 6 31) (by kernel_rfl) (by kernel_rfl) (by kernel_rfl) (EO.storeBox (os' := Ass.box 63 a5 (encS63 {zS63 with f0 := 1}) :: Ass.box 91 a6 (cellsS91 (⟨a42, a0⟩ : S91) (A43, C44)) :: Ass.box 32 a1 [ia 12, ib a0] :: Ass.box 63 a4 (encS63 zS63) :: Ass.box 58 a3 (cellsS58 b7 (d2, e6)) :: Ass.box 58 a2 (cellsS58 a42 (A43, C44)) :: os) hS 4 rfl 58 0 (ag (cellsS58 b7 (d2, e6))) (cellsS58 b7 (d2, e6)) (by kernel_rfl) (by kernel_rfl) (by kernel_rfl) (by kernel_rfl) (by kernel_rfl) (by kernel_rfl) rfl rfl ?_)
   intro w hS
   have hC := hC.again ⟨_, _, hS.re [5, 3, 3, 3] [] rfl (sub_cons 1 rfl (sub_cons 2 rfl sub_self))⟩
   refine ⟨hC, ?_⟩
   refine ED.one 5 0 (bm 6 63) (by kernel_rfl) (by kernel_rfl) (by kernel_rfl) (EO.storeBox (os' := Ass.box 63 a5 (encS63 {zS63 with f0 := 1}) :: Ass.box 91 a6 (cellsS91 (⟨a42, a0⟩ : S91) (A43, C44)) :: Ass.box 32 a1 [ia 12, ib a0] :: Ass.box 63 a4 (encS63 {zS63 with f0 := 1}) :: Ass.box 58 a3 (cellsS58 b7 (d2, e6)) :: Ass.box 58 a2 (cellsS58 a42 (A43, C44)) :: os) hS 3 rfl 63 0 (ag (encS63 {zS63 with f0 := 1})) (encS63 {zS63 with f0 := 1}) (by kernel_rfl) (by kernel_rfl) (by kernel_rfl) (by kernel_rfl) (by kernel_rfl) (by kernel_rfl) rfl rfl ?_)
   intro w hS
   have hC := hC.again ⟨_, _, hS.re [5, 3, 3, 3] [] rfl (sub_cons 1 rfl (sub_cons 2 rfl sub_self))⟩
   refine ⟨hC, ?_⟩
   refine ED.done (by kernel_rfl) ?_
   refine EQ.code ?_
   refine EW.ret (by kernel_rfl) ?_
   refine EQ.ret ?_
   simp only [cellsS58, cellsS91, encS63, Option.some.injEq, Prod.mk.injEq] at H
   obtain ⟨rfl, rfl⟩ := H
   exact EQ.leave2 hS (.cell 4 58) (.cell 5 63) (ag (cellsS58 b7 (d2, e6))) (ag (encS63 {zS63 with f0 := 1})) (by kernel_rfl) ⟨4, 58, a3, (cellsS58 b7 (d2, e6)), 0, 12, rfl, (by kernel_rfl), (by kernel_rfl)⟩ ⟨3, 63, a4, (encS63 {zS63 with f0 := 1}), 0, 3, rfl, (by kernel_rfl), (by kernel_rfl)⟩ ⟨_, rfl, d2, e6, rfl, (hS.re [] [0, 0, 0, 0, 0, 0] rfl (sub_cons 0 rfl (sub_tail (sub_self))))⟩
  rw [if_neg i9] at H
  by_cases j0 : a7 = 13
  ·rw [if_pos j0] at H
   refine EW.keep [2, 4, 5, 6, 8, 9] [(2, pt a2 0), (4, pt a3 0), (5, pt a4 0), (6, pt a1 0), (8, pt a6 0), (9, pt a5 0)] (by kernel_rfl) ?_
   have hS := St.as (os' := Ass.box 63 a5 (encS63 {zS63 with f0 := 1}) :: Ass.box 91 a6 (cellsS91 (⟨a42, a0⟩ : S91) (A43, C44)) :: Ass.box 32 a1 [ia 13, ib a0] :: Ass.box 63 a4 (encS63 zS63) :: Ass.box 58 a3 (cellsS58 zS58 (none, 0)) :: Ass.box 58 a2 (cellsS58 a42 (A43, C44)) :: os) hS (by simp only [cellsS58, cellsS91, encS63, j0])
   obtain ⟨_, q4, H⟩ := b1_out H
   have hS := hS.drew
   refine EW.dr (B := B) [Ass.box 63 a5 (encS63 {zS63 with f0 := 1}), Ass.box 91 a6 (cellsS91 (⟨a42, a0⟩ : S91) (A43, C44)), Ass.box 32 a1 [ia 13, ib a0], Ass.box 63 a4 (encS63 zS63), Ass.box 58 a3 (cellsS58 zS58 (none, 0)), Ass.box 58 a2 (cellsS58 a42 (A43, C44))] [Ro.sl (Kd.int .i32) A43 C44 a42.f3, Ro.sl (Kd.slice kS32) A46 C47 l45] (by kernel_rfl) (by kernel_rfl) ?_
   have hN : Region.noSelect Cd28.r.r.r.r.l.l.ops = true := (by kernel_rfl)
   have hF : freeAll Cd28.r.r.r.r.l.l.ops = true := (by kernel_rfl)
   have hC : Core B [Ass.box 63 a5 (encS63 {zS63 with f0 := 1}), Ass.box 91 a6 (cellsS91 (⟨a42, a0⟩ : S91) (A43, C44)), Ass.box 32 a1 [ia 13, ib a0], Ass.box 63 a4 (encS63 zS63), Ass.box 58 a3 (cellsS58 zS58 (none, 0)), Ass.box 58 a2 (cellsS58 a42 (A43, C44))] [Ro.sl (Kd.int .i32) A43 C44 a42.f3, Ro.sl (Kd.slice kS32) A46 C47 l45] _ := ⟨_, _, hS⟩
   refine ED.quick hN hF hC [1] [2, 4, 5, 6, 8, 9, 30] 4 [(2, pt a2 0), (4, pt a3 0), (5, pt a4 0), (6, pt a1 0), (8, pt a6 0), (9, pt a5 0), (30, pt a1 0)] (bm 5 2) (by kernel_rfl) (by kernel_rfl) ?_
   refine ED.Y hN hF hC 2 3 (bm 5 6) (by kernel_rfl) (by kernel_rfl) rfl (fun _ _ _ hS => YO.loadBox hS 2 rfl 3 0 1 (ia 13) 31 (by kernel_rfl) (by kernel_rfl) (by kernel_rfl) (by kernel_rfl)) ?_
   have hq := task_acts.calls q4 hS
   refine ED.one 0 2 (bm 5 7) (by kernel_rfl) (by kernel_rfl) (by kernel_rfl) (EO.callD 48 [] _ 29 (by kernel_rfl) (by kernel_rfl) (by kernel_rfl) hq ?_)
   rintro v w ⟨rfl, hS⟩
   have hC := hC.again ⟨_, _, hS⟩
   refine ⟨hC, ?_⟩
   refine ED.quick hN hF hC [3, 4] [2, 4, 5, 6, 8, 9, 10] 0 [(2, pt a2 0), (4, pt a3 0), (5, pt a4 0), (6, pt a1 0), (8, pt a6 0), (9, pt a5 0), (10, .func (.func 76) #[] #[])] (bm 5 31) (by kernel_rfl) (by kernel_rfl) ?_
   refine ED.done (by kernel_rfl) ?_
   refine EQ.code ?_
   refine EW.sq (by kernel_rfl) ?_
   refine EW.rg (by kernel_rfl) ?_
   refine EL.quick 2 [2, 4, 5, 6, 8, 9, 10, 34] [(2, pt a2 0), (4, pt a3 0), (5, pt a4 0), (6, pt a1 0), (8, pt a6 0), (9, pt a5 0), (10, .func (.func 76) #[] #[]), (34, .bool (true))] (by kernel_rfl) ?_
   refine EL.done (by kernel_rfl) ?_
   refine EQ.code ?_
   refine EW.cdT (by kernel_rfl) (by kernel_rfl) ?_
   refine EW.sq (by kernel_rfl) ?_
   obtain ⟨b8, q5, H⟩ := b1_out H
   have hS := hS.drew
   refine EW.dr (B := B) [Ass.box 63 a5 (encS63 {zS63 with f0 := 1}), Ass.box 91 a6 (cellsS91 (⟨a42, a0⟩ : S91) (A43, C44)), Ass.box 32 a1 [ia 13, ib a0], Ass.box 58 a2 (cellsS58 a42 (A43, C44))] [Ro.sl (Kd.int .i32) A43 C44 a42.f3, Ro.sl (Kd.slice kS32) A46 C47 l45] (by kernel_rfl) (by kernel_rfl) ?_
   have hN : Region.noSelect Cd28.r.r.r.r.l.r.r.l.l.ops = true := (by kernel_rfl)
   have hF : freeAll Cd28.r.r.r.r.l.r.r.l.l.ops = true := (by kernel_rfl)
   have hC : Core B [Ass.box 63 a5 (encS63 {zS63 with f0 := 1}), Ass.box 91 a6 (cellsS91 (⟨a42, a0⟩ : S91) (A43, C44)), Ass.box 32 a1 [ia 13, ib a0], Ass.box 58 a2 (cellsS58 a42 (A43, C44))] [Ro.sl (Kd.int .i32) A43 C44 a42.f3, Ro.sl (Kd.slice kS32) A46 C47 l45] _ := ⟨_, _, hS.re [5, 3, 3, 3] [] rfl sub_self⟩
   refine ED.quick hN hF hC [0] [4, 5, 8, 9, 35] 5 [(4, pt a3 0), (5, pt a4 0), (8, pt a6 0), (9, pt a5 0), (35, .func (.func 76) #[] #[])] (bm 6 1) (by kernel_rfl) (by kernel_rfl) ?_
   refine ED.Y hN hF hC 1 4 (bm 6 3) (by kernel_rfl) (by kernel_rfl) rfl (fun _ _ _ hS => YO.loadBox hS 1 rfl 91 0 13 (ag (cellsS91 (⟨a42, a0⟩ : S91) (A43, C44))) 36 (by kernel_rfl) (by kernel_rfl) (by kernel_rfl) (by kernel_rfl)) ?_
   refine ED.Y hN hF hC 3 3 (bm 6 11) (by kernel_rfl) (by kernel_rfl) rfl (fun _ _ _ hS => YO.loadBox hS 0 rfl 63 0 3 (ag (encS63 {zS63 with f0 := 1})) 38 (by kernel_rfl) (by kernel_rfl) (by kernel_rfl) (by kernel_rfl)) ?_
   have hS : St B _ (Ass.box 63 a5 (encS63 {zS63 with f0 := 1}) :: Ass.box 91 a6 (cellsS91 (⟨a42, a0⟩ : S91) (A43, C44)) :: Ass.box 32 a1 [ia 13, ib a0] :: Ass.box 63 a4 (encS63 zS63) :: Ass.box 58 a3 (cellsS58 zS58 (none, 0)) :: Ass.box 58 a2 (cellsS58 a42 (A43, C44)) :: os) (Ro.sl (Kd.int .i32) A43 C44 a42.f3 :: Ro.sl (Kd.slice kS32) A46 C47 l45 :: rs) := hS.re [] [] rfl (sub_cons 0 rfl (sub_tail (sub_self)))
   have hq := task_act_store.calls q5 hS
   refine ED.one 2 2 (bm 6 15) (by kernel_rfl) (by kernel_rfl) (by kernel_rfl) (EO.callD 76 [ag (cellsS91 (⟨a42, a0⟩ : S91) (A43, C44))] _ 37 (by kernel_rfl) (by kernel_rfl) (by kernel_rfl) hq ?_)
   rintro v w ⟨d3, e7, rfl, hS⟩
   have hC := hC.again ⟨_, _, hS.re [5, 3, 3, 3] [] rfl (sub_cons 1 rfl (sub_cons 2 rfl sub_self))⟩
   refine ⟨hC, ?_⟩
   refine ED.one 4 1 (bm 6 31) (by kernel_rfl) (by kernel_rfl) (by kernel_rfl) (EO.storeBox (os' := Ass.box 63 a5 (encS63 {zS63 with f0 := 1}) :: Ass.box 91 a6 (cellsS91 (⟨a42, a0⟩ : S91) (A43, C44)) :: Ass.box 32 a1 [ia 13, ib a0] :: Ass.box 63 a4 (encS63 zS63) :: Ass.box 58 a3 (cellsS58 b8 (d3, e7)) :: Ass.box 58 a2 (cellsS58 a42 (A43, C44)) :: os) hS 4 rfl 58 0 (ag (cellsS58 b8 (d3, e7))) (cellsS58 b8 (d3, e7)) (by kernel_rfl) (by kernel_rfl) (by kernel_rfl) (by kernel_rfl) (by kernel_rfl) (by kernel_rfl) rfl rfl ?_)
   intro w hS
   have hC := hC.again ⟨_, _, hS.re [5, 3, 3, 3] [] rfl (sub_cons 1 rfl (sub_cons 2 rfl sub_self))⟩
   refine ⟨hC, ?_⟩
   refine ED.one 5 0 (bm 6 63) (by kernel_rfl) (by kernel_rfl) (by kernel_rfl) (EO.storeBox (os' := Ass.box 63 a5 (encS63 {zS63 with f0 := 1}) :: Ass.box 91 a6 (cellsS91 (⟨a42, a0⟩ : S91) (A43, C44)) :: Ass.box 32 a1 [ia 13, ib a0] :: Ass.box 63 a4 (encS63 {zS63 with f0 := 1}) :: Ass.box 58 a3 (cellsS58 b8 (d3, e7)) :: Ass.box 58 a2 (cellsS58 a42 (A43, C44)) :: os) hS 3 rfl 63 0 (ag (encS63 {zS63 with f0 := 1})) (encS63 {zS63 with f0 := 1}) (by kernel_rfl) (by kernel_rfl) (by kernel_rfl) (by kernel_rfl) (by kernel_rfl) (by kernel_rfl) rfl rfl ?_)
   intro w hS
   have hC := hC.again ⟨_, _, hS.re [5, 3, 3, 3] [] rfl (sub_cons 1 rfl (sub_cons 2 rfl sub_self))⟩
   refine ⟨hC, ?_⟩
   refine ED.done (by kernel_rfl) ?_
   refine EQ.code ?_
   refine EW.ret (by kernel_rfl) ?_
   refine EQ.ret ?_
   simp only [cellsS58, cellsS91, encS63, Option.some.injEq, Prod.mk.injEq] at H
   obtain ⟨rfl, rfl⟩ := H
   exact EQ.leave2 hS (.cell 4 58) (.cell 5 63) (ag (cellsS58 b8 (d3, e7))) (ag (encS63 {zS63 with f0 := 1})) (by kernel_rfl) ⟨4, 58, a3, (cellsS58 b8 (d3, e7)), 0, 12, rfl, (by kernel_rfl), (by kernel_rfl)⟩ ⟨3, 63, a4, (encS63 {zS63 with f0 := 1}), 0, 3, rfl, (by kernel_rfl), (by kernel_rfl)⟩ ⟨_, rfl, d3, e7, rfl, (hS.re [] [0, 0, 0, 0, 0, 0] rfl (sub_cons 0 rfl (sub_tail (sub_self))))⟩
  rw [if_neg j0] at H
  by_cases j1 : a7 = 14
  ·rw [if_pos j1] at H
   refine EW.keep [2, 4, 5, 6, 8, 9] [(2, pt a2 0), (4, pt a3 0), (5, pt a4 0), (6, pt a1 0), (8, pt a6 0), (9, pt a5 0)] (by kernel_rfl) ?_
   have hS := St.as (os' := Ass.box 63 a5 (encS63 {zS63 with f0 := 1}) :: Ass.box 91 a6 (cellsS91 (⟨a42, a0⟩ : S91) (A43, C44)) :: Ass.box 32 a1 [ia 14, ib a0] :: Ass.box 63 a4 (encS63 zS63) :: Ass.box 58 a3 (cellsS58 zS58 (none, 0)) :: Ass.box 58 a2 (cellsS58 a42 (A43, C44)) :: os) hS (by simp only [cellsS58, cellsS91, encS63, j1])
   obtain ⟨_, q6, H⟩ := b1_out H
   have hS := hS.drew
   refine EW.dr (B := B) [Ass.box 63 a5 (encS63 {zS63 with f0 := 1}), Ass.box 91 a6 (cellsS91 (⟨a42, a0⟩ : S91) (A43, C44)), Ass.box 32 a1 [ia 14, ib a0], Ass.box 63 a4 (encS63 zS63), Ass.box 58 a3 (cellsS58 zS58 (none, 0)), Ass.box 58 a2 (cellsS58 a42 (A43, C44))] [Ro.sl (Kd.int .i32) A43 C44 a42.f3, Ro.sl (Kd.slice kS32) A46 C47 l45] (by kernel_rfl) (by kernel_rfl) ?_
   have hN : Region.noSelect Cd28.r.r.r.r.l.l.ops = true := (by kernel_rfl)
   have hF : freeAll Cd28.r.r.r.r.l.l.ops = true := (by kernel_rfl)
   have hC : Core B [Ass.box 63 a5 (encS63 {zS63 with f0 := 1}), Ass.box 91 a6 (cellsS91 (⟨a42, a0⟩ : S91) (A43, C44)), Ass.box 32 a1 [ia 14, ib a0], Ass.box 63 a4 (encS63 zS63), Ass.box 58 a3 (cellsS58 zS58 (none, 0)), Ass.box 58 a2 (cellsS58 a42 (A43, C44))] [Ro.sl (Kd.int .i32) A43 C44 a42.f3, Ro.sl (Kd.slice kS32) A46 C47 l45] _ := ⟨_, _, hS⟩
   refine ED.quick hN hF hC [1] [2, 4, 5, 6, 8, 9, 30] 4 [(2, pt a2 0), (4, pt a3 0), (5, pt a4 0), (6, pt a1 0), (8, pt a6 0), (9, pt a5 0), (30, pt a1 0)] (bm 5 2) (by kernel_rfl) (by kernel_rfl) ?_
   refine ED.Y hN hF hC 2 3 (bm 5 6) (by kernel_rfl) (by kernel_rfl) rfl (fun _ _ _ hS => YO.loadBox hS 2 rfl 3 0 1 (ia 14) 31 (by kernel_rfl) (by kernel_rfl) (by kernel_rfl) (by kernel_rfl)) ?_
   have hq := task_acts.calls q6 hS
   refine ED.one 0 2 (bm 5 7) (by kernel_rfl) (by kernel_rfl) (by kernel_rfl) (EO.callD 48 [] _ 29 (by kernel_rfl) (by kernel_rfl) (by kernel_rfl) hq ?_)
   rintro v w ⟨rfl, hS⟩
   have hC := hC.again ⟨_, _, hS⟩
   refine ⟨hC, ?_⟩
   refine ED.quick hN hF hC [3, 4] [2, 4, 5, 6, 8, 9, 10] 0 [(2, pt a2 0), (4, pt a3 0), (5, pt a4 0), (6, pt a1 0), (8, pt a6 0), (9, pt a5 0), (10, .func (.func 77) #[] #[])] (bm 5 31) (by kernel_rfl) (by kernel_rfl) ?_
   refine ED.done (by kernel_rfl) ?_
   refine EQ.code ?_
   refine EW.sq (by kernel_rfl) ?_
   refine EW.rg (by kernel_rfl) ?_
   refine EL.quick 2 [2, 4, 5, 6, 8, 9, 10, 34] [(2, pt a2 0), (4, pt a3 0), (5, pt a4 0), (6, pt a1 0), (8, pt a6 0), (9, pt a5 0), (10, .func (.func 77) #[] #[]), (34, .bool (true))] (by kernel_rfl) ?_
   refine EL.done (by kernel_rfl) ?_
   refine EQ.code ?_
   refine EW.cdT (by kernel_rfl) (by kernel_rfl) ?_
   refine EW.sq (by kernel_rfl) ?_
   obtain ⟨b9, q7, H⟩ := b1_out H
   have hS := hS.drew
   refine EW.dr (B := B) [Ass.box 63 a5 (encS63 {zS63 with f0 := 1}), Ass.box 91 a6 (cellsS91 (⟨a42, a0⟩ : S91) (A43, C44)), Ass.box 32 a1 [ia 14, ib a0], Ass.box 58 a2 (cellsS58 a42 (A43, C44))] [Ro.sl (Kd.int .i32) A43 C44 a42.f3, Ro.sl (Kd.slice kS32) A46 C47 l45] (by kernel_rfl) (by kernel_rfl) ?_
   have hN : Region.noSelect Cd28.r.r.r.r.l.r.r.l.l.ops = true := (by kernel_rfl)
   have hF : freeAll Cd28.r.r.r.r.l.r.r.l.l.ops = true := (by kernel_rfl)
   have hC : Core B [Ass.box 63 a5 (encS63 {zS63 with f0 := 1}), Ass.box 91 a6 (cellsS91 (⟨a42, a0⟩ : S91) (A43, C44)), Ass.box 32 a1 [ia 14, ib a0], Ass.box 58 a2 (cellsS58 a42 (A43, C44))] [Ro.sl (Kd.int .i32) A43 C44 a42.f3, Ro.sl (Kd.slice kS32) A46 C47 l45] _ := ⟨_, _, hS.re [5, 3, 3, 3] [] rfl sub_self⟩
   refine ED.quick hN hF hC [0] [4, 5, 8, 9, 35] 5 [(4, pt a3 0), (5, pt a4 0), (8, pt a6 0), (9, pt a5 0), (35, .func (.func 77) #[] #[])] (bm 6 1) (by kernel_rfl) (by kernel_rfl) ?_
   refine ED.Y hN hF hC 1 4 (bm 6 3) (by kernel_rfl) (by kernel_rfl) rfl (fun _ _ _ hS => YO.loadBox hS 1 rfl 91 0 13 (ag (cellsS91 (⟨a42, a0⟩ : S91) (A43, C44))) 36 (by kernel_rfl) (by kernel_rfl) (by kernel_rfl) (by kernel_rfl)) ?_
   refine ED.Y hN hF hC 3 3 (bm 6 11) (by kernel_rfl) (by kernel_rfl) rfl (fun _ _ _ hS => YO.loadBox hS 0 rfl 63 0 3 (ag (encS63 {zS63 with f0 := 1})) 38 (by kernel_rfl) (by kernel_rfl) (by kernel_rfl) (by kernel_rfl)) ?_
   have hS : St B _ (Ass.box 63 a5 (encS63 {zS63 with f0 := 1}) :: Ass.box 91 a6 (cellsS91 (⟨a42, a0⟩ : S91) (A43, C44)) :: Ass.box 32 a1 [ia 14, ib a0] :: Ass.box 63 a4 (encS63 zS63) :: Ass.box 58 a3 (cellsS58 zS58 (none, 0)) :: Ass.box 58 a2 (cellsS58 a42 (A43, C44)) :: os) (Ro.sl (Kd.int .i32) A43 C44 a42.f3 :: Ro.sl (Kd.slice kS32) A46 C47 l45 :: rs) := hS.re [] [] rfl (sub_cons 0 rfl (sub_tail (sub_self)))
   have hq := task_act_label.calls q7 hS
   refine ED.one 2 2 (bm 6 15) (by kernel_rfl) (by kernel_rfl) (by kernel_rfl) (EO.callD 77 [ag (cellsS91 (⟨a42, a0⟩ : S91) (A43, C44))] _ 37 (by kernel_rfl) (by kernel_rfl) (by kernel_rfl) hq ?_)
   rintro v w ⟨d4, e8, rfl, hS⟩
   have hC := hC.again ⟨_, _, hS.re [5, 3, 3, 3] [] rfl (sub_cons 1 rfl (sub_cons 2 rfl sub_self))⟩
   refine ⟨hC, ?_⟩
   refine ED.one 4 1 (bm 6 31) (by kernel_rfl) (by kernel_rfl) (by kernel_rfl) (EO.storeBox (os' := Ass.box 63 a5 (encS63 {zS63 with f0 := 1}) :: Ass.box 91 a6 (cellsS91 (⟨a42, a0⟩ : S91) (A43, C44)) :: Ass.box 32 a1 [ia 14, ib a0] :: Ass.box 63 a4 (encS63 zS63) :: Ass.box 58 a3 (cellsS58 b9 (d4, e8)) :: Ass.box 58 a2 (cellsS58 a42 (A43, C44)) :: os) hS 4 rfl 58 0 (ag (cellsS58 b9 (d4, e8))) (cellsS58 b9 (d4, e8)) (by kernel_rfl) (by kernel_rfl) (by kernel_rfl) (by kernel_rfl) (by kernel_rfl) (by kernel_rfl) rfl rfl ?_)
   intro w hS
   have hC := hC.again ⟨_, _, hS.re [5, 3, 3, 3] [] rfl (sub_cons 1 rfl (sub_cons 2 rfl sub_self))⟩
   refine ⟨hC, ?_⟩
   refine ED.one 5 0 (bm 6 63) (by kernel_rfl) (by kernel_rfl) (by kernel_rfl) (EO.storeBox (os' := Ass.box 63 a5 (encS63 {zS63 with f0 := 1}) :: Ass.box 91 a6 (cellsS91 (⟨a42, a0⟩ : S91) (A43, C44)) :: Ass.box 32 a1 [ia 14, ib a0] :: Ass.box 63 a4 (encS63 {zS63 with f0 := 1}) :: Ass.box 58 a3 (cellsS58 b9 (d4, e8)) :: Ass.box 58 a2 (cellsS58 a42 (A43, C44)) :: os) hS 3 rfl 63 0 (ag (encS63 {zS63 with f0 := 1})) (encS63 {zS63 with f0 := 1}) (by kernel_rfl) (by kernel_rfl) (by kernel_rfl) (by kernel_rfl) (by kernel_rfl) (by kernel_rfl) rfl rfl ?_)
   intro w hS
   have hC := hC.again ⟨_, _, hS.re [5, 3, 3, 3] [] rfl (sub_cons 1 rfl (sub_cons 2 rfl sub_self))⟩
   refine ⟨hC, ?_⟩
   refine ED.done (by kernel_rfl) ?_
   refine EQ.code ?_
   refine EW.ret (by kernel_rfl) ?_
   refine EQ.ret ?_
   simp only [cellsS58, cellsS91, encS63, Option.some.injEq, Prod.mk.injEq] at H
   obtain ⟨rfl, rfl⟩ := H
   exact EQ.leave2 hS (.cell 4 58) (.cell 5 63) (ag (cellsS58 b9 (d4, e8))) (ag (encS63 {zS63 with f0 := 1})) (by kernel_rfl) ⟨4, 58, a3, (cellsS58 b9 (d4, e8)), 0, 12, rfl, (by kernel_rfl), (by kernel_rfl)⟩ ⟨3, 63, a4, (encS63 {zS63 with f0 := 1}), 0, 3, rfl, (by kernel_rfl), (by kernel_rfl)⟩ ⟨_, rfl, d4, e8, rfl, (hS.re [] [0, 0, 0, 0, 0, 0] rfl (sub_cons 0 rfl (sub_tail (sub_self))))⟩
  rw [if_neg j1] at H
  obtain ⟨g1, H⟩ := ite_in H
  obtain ⟨j2, H⟩ := ite_in H
  obtain ⟨_, q8, H⟩ := b1_out H
  have hS := hS.drew
  refine EW.dr (B := B) [Ass.box 63 a5 (encS63 {zS63 with f0 := 1}), Ass.box 91 a6 (cellsS91 (⟨a42, a0⟩ : S91) (A43, C44)), Ass.box 32 a1 [ia a7, ib a0], Ass.box 63 a4 (encS63 zS63), Ass.box 58 a3 (cellsS58 zS58 (none, 0)), Ass.box 58 a2 (cellsS58 a42 (A43, C44))] [Ro.sl (Kd.int .i32) A43 C44 a42.f3, Ro.sl (Kd.slice kS32) A46 C47 l45] (by kernel_rfl) (by kernel_rfl) ?_
  have hN : Region.noSelect Cd28.r.r.r.r.l.l.ops = true := (by kernel_rfl)
  have hF : freeAll Cd28.r.r.r.r.l.l.ops = true := (by kernel_rfl)
  have hC : Core B [Ass.box 63 a5 (encS63 {zS63 with f0 := 1}), Ass.box 91 a6 (cellsS91 (⟨a42, a0⟩ : S91) (A43, C44)), Ass.box 32 a1 [ia a7, ib a0], Ass.box 63 a4 (encS63 zS63), Ass.box 58 a3 (cellsS58 zS58 (none, 0)), Ass.box 58 a2 (cellsS58 a42 (A43, C44))] [Ro.sl (Kd.int .i32) A43 C44 a42.f3, Ro.sl (Kd.slice kS32) A46 C47 l45] _ := ⟨_, _, hS⟩
  refine ED.quick hN hF hC [1] [2, 4, 5, 6, 8, 9, 30] 4 [(2, pt a2 0), (4, pt a3 0), (5, pt a4 0), (6, pt a1 0), (8, pt a6 0), (9, pt a5 0), (30, pt a1 0)] (bm 5 2) (by kernel_rfl) (by kernel_rfl) ?_
  refine ED.Y hN hF hC 2 3 (bm 5 6) (by kernel_rfl) (by kernel_rfl) rfl (fun _ _ _ hS => YO.loadBox hS 2 rfl 3 0 1 (ia a7) 31 (by kernel_rfl) (by kernel_rfl) (by kernel_rfl) (by kernel_rfl)) ?_
  have hq := task_acts.calls q8 hS
  refine ED.one 0 2 (bm 5 7) (by kernel_rfl) (by kernel_rfl) (by kernel_rfl) (EO.callD 48 [] _ 29 (by kernel_rfl) (by kernel_rfl) (by kernel_rfl) hq ?_)
  rintro v w ⟨rfl, hS⟩
  have hC := hC.again ⟨_, _, hS⟩
  refine ⟨hC, ?_⟩
  refine ED.Y hN hF hC 3 1 (bm 5 15) (by kernel_rfl) (by kernel_rfl) rfl (fun _ _ _ hS => YO.idxOne 93 27 #[.nilFunc, .func (.func 70) #[] #[], .func (.func 71) #[] #[], .func (.func 72) #[] #[], .nilFunc, .nilFunc, .nilFunc, .nilFunc, .nilFunc, .nilFunc, .func (.func 73) #[] #[], .func (.func 74) #[] #[], .func (.func 75) #[] #[], .func (.func 76) #[] #[], .func (.func 77) #[] #[], .nilFunc, .nilFunc, .nilFunc, .nilFunc, .nilFunc, .nilFunc, .nilFunc, .nilFunc, .nilFunc, .nilFunc, .nilFunc, .nilFunc] .i64 a7 .nilFunc 32 (by kernel_rfl) (by kernel_rfl) (by kernel_rfl) (by kernel_rfl) g1 j2 (nilAt_get (L := [1, 2, 3, 10, 11, 12, 13, 14]) (cs := [.nilFunc, .func (.func 70) #[] #[], .func (.func 71) #[] #[], .func (.func 72) #[] #[], .nilFunc, .nilFunc, .nilFunc, .nilFunc, .nilFunc, .nilFunc, .func (.func 73) #[] #[], .func (.func 74) #[] #[], .func (.func 75) #[] #[], .func (.func 76) #[] #[], .func (.func 77) #[] #[], .nilFunc, .nilFunc, .nilFunc, .nilFunc, .nilFunc, .nilFunc, .nilFunc, .nilFunc, .nilFunc, .nilFunc, .nilFunc, .nilFunc]) (.eq (.mem rfl (.mem rfl (.mem rfl (.eq (.eq (.eq (.eq (.eq (.eq (.mem rfl (.mem rfl (.mem rfl (.mem rfl (.mem rfl (.eq (.eq (.eq (.eq (.eq (.eq (.eq (.eq (.eq (.eq (.eq (.eq (.nil _)))))))))))))))))))))))))))) (by show _ < 27; have ea := g1; have eb := j2; omega) (by simp only [cellsS58, cellsS91, encS63, List.mem_cons, List.mem_nil_iff, or_false, not_or]; have ea := g1; have n_0 := i4; have n_1 := i5; have n_2 := i6; have n_3 := i7; have n_4 := i8; have n_5 := i9; have n_6 := j0; have n_7 := j1; omega))) ?_
  refine ED.quick hN hF hC [4] [2, 4, 5, 6, 8, 9, 10] 0 [(2, pt a2 0), (4, pt a3 0), (5, pt a4 0), (6, pt a1 0), (8, pt a6 0), (9, pt a5 0), (10, .nilFunc)] (bm 5 31) (by kernel_rfl) (by kernel_rfl) ?_
  refine ED.done (by kernel_rfl) ?_
  refine EQ.code ?_
  refine EW.sq (by kernel_rfl) ?_
  refine EW.rg (by kernel_rfl) ?_
  refine EL.quick 2 [2, 4, 5, 6, 8, 9, 10, 34] [(2, pt a2 0), (4, pt a3 0), (5, pt a4 0), (6, pt a1 0), (8, pt a6 0), (9, pt a5 0), (10, .nilFunc), (34, .bool (false))] (by kernel_rfl) ?_
  refine EL.done (by kernel_rfl) ?_
  refine EQ.code ?_
  refine EW.cdF (by kernel_rfl) (by kernel_rfl) ?_
  refine EW.skip (by kernel_rfl) ?_
  refine EQ.code ?_
  refine EW.sq (by kernel_rfl) ?_
  refine EW.sq (by kernel_rfl) ?_
  by_cases j3 : a7 = 4
  ·rw [if_pos j3] at H
   refine EW.keep [2, 4, 5, 6, 8, 9] [(2, pt a2 0), (4, pt a3 0), (5, pt a4 0), (6, pt a1 0), (8, pt a6 0), (9, pt a5 0)] (by kernel_rfl) ?_
   have hS := St.as (os' := Ass.box 63 a5 (encS63 {zS63 with f0 := 1}) :: Ass.box 91 a6 (cellsS91 (⟨a42, a0⟩ : S91) (A43, C44)) :: Ass.box 32 a1 [ia 4, ib a0] :: Ass.box 63 a4 (encS63 zS63) :: Ass.box 58 a3 (cellsS58 zS58 (none, 0)) :: Ass.box 58 a2 (cellsS58 a42 (A43, C44)) :: os) hS (by simp only [cellsS58, cellsS91, encS63, j3])
   obtain ⟨_, q9, H⟩ := b1_out H
   have hS := hS.drew
   refine EW.dr (B := B) [Ass.box 63 a5 (encS63 {zS63 with f0 := 1}), Ass.box 91 a6 (cellsS91 (⟨a42, a0⟩ : S91) (A43, C44)), Ass.box 32 a1 [ia 4, ib a0], Ass.box 63 a4 (encS63 zS63), Ass.box 58 a3 (cellsS58 zS58 (none, 0)), Ass.box 58 a2 (cellsS58 a42 (A43, C44))] [Ro.sl (Kd.int .i32) A43 C44 a42.f3, Ro.sl (Kd.slice kS32) A46 C47 l45] (by kernel_rfl) (by kernel_rfl) ?_
   have hN : Region.noSelect Cd28.r.r.r.r.r.l.l.ops = true := (by kernel_rfl)
   have hF : freeAll Cd28.r.r.r.r.r.l.l.ops = true := (by kernel_rfl)
   have hC : Core B [Ass.box 63 a5 (encS63 {zS63 with f0 := 1}), Ass.box 91 a6 (cellsS91 (⟨a42, a0⟩ : S91) (A43, C44)), Ass.box 32 a1 [ia 4, ib a0], Ass.box 63 a4 (encS63 zS63), Ass.box 58 a3 (cellsS58 zS58 (none, 0)), Ass.box 58 a2 (cellsS58 a42 (A43, C44))] [Ro.sl (Kd.int .i32) A43 C44 a42.f3, Ro.sl (Kd.slice kS32) A46 C47 l45] _ := ⟨_, _, hS⟩
   refine ED.quick hN hF hC [1] [2, 4, 5, 6, 8, 9, 40] 4 [(2, pt a2 0), (4, pt a3 0), (5, pt a4 0), (6, pt a1 0), (8, pt a6 0), (9, pt a5 0), (40, pt a1 0)] (bm 5 2) (by kernel_rfl) (by kernel_rfl) ?_
   refine ED.Y hN hF hC 2 3 (bm 5 6) (by kernel_rfl) (by kernel_rfl) rfl (fun _ _ _ hS => YO.loadBox hS 2 rfl 3 0 1 (ia 4) 41 (by kernel_rfl) (by kernel_rfl) (by kernel_rfl) (by kernel_rfl)) ?_
   have hq := task_two.calls q9 hS
   refine ED.one 0 2 (bm 5 7) (by kernel_rfl) (by kernel_rfl) (by kernel_rfl) (EO.callD 49 [] _ 39 (by kernel_rfl) (by kernel_rfl) (by kernel_rfl) hq ?_)
   rintro v w ⟨rfl, hS⟩
   have hC := hC.again ⟨_, _, hS⟩
   refine ⟨hC, ?_⟩
   refine ED.quick hN hF hC [3, 4] [2, 4, 5, 6, 8, 9, 11] 0 [(2, pt a2 0), (4, pt a3 0), (5, pt a4 0), (6, pt a1 0), (8, pt a6 0), (9, pt a5 0), (11, .func (.func 78) #[] #[])] (bm 5 31) (by kernel_rfl) (by kernel_rfl) ?_
   refine ED.done (by kernel_rfl) ?_
   refine EQ.code ?_
   refine EW.sq (by kernel_rfl) ?_
   refine EW.rg (by kernel_rfl) ?_
   refine EL.quick 2 [2, 4, 5, 6, 8, 9, 11, 44] [(2, pt a2 0), (4, pt a3 0), (5, pt a4 0), (6, pt a1 0), (8, pt a6 0), (9, pt a5 0), (11, .func (.func 78) #[] #[]), (44, .bool (true))] (by kernel_rfl) ?_
   refine EL.done (by kernel_rfl) ?_
   refine EQ.code ?_
   refine EW.cdT (by kernel_rfl) (by kernel_rfl) ?_
   refine EW.sq (by kernel_rfl) ?_
   obtain ⟨m4, t0, H⟩ := b1_out H
   obtain ⟨m5, t1, H⟩ := b1_out H
   obtain ⟨g9, t2, H⟩ := b1_out H
   obtain ⟨g3, o4, H⟩ := lt_out H
   obtain ⟨c0, t3, H⟩ := b1_out H
   have hS := hS.drew
   refine EW.dr (B := B) [Ass.box 63 a5 (encS63 {zS63 with f0 := 1}), Ass.box 91 a6 (cellsS91 (⟨a42, a0⟩ : S91) (A43, C44)), Ass.box 32 a1 [ia 4, ib a0], Ass.box 58 a2 (cellsS58 a42 (A43, C44))] [Ro.sl (Kd.int .i32) A43 C44 a42.f3, Ro.sl (Kd.slice kS32) A46 C47 l45] (by kernel_rfl) (by kernel_rfl) ?_
   have hN : Region.noSelect Cd28.r.r.r.r.r.l.r.r.l.l.ops = true := (by kernel_rfl)
   have hF : freeAll Cd28.r.r.r.r.r.l.r.r.l.l.ops = true := (by kernel_rfl)
   have hC : Core B [Ass.box 63 a5 (encS63 {zS63 with f0 := 1}), Ass.box 91 a6 (cellsS91 (⟨a42, a0⟩ : S91) (A43, C44)), Ass.box 32 a1 [ia 4, ib a0], Ass.box 58 a2 (cellsS58 a42 (A43, C44))] [Ro.sl (Kd.int .i32) A43 C44 a42.f3, Ro.sl (Kd.slice kS32) A46 C47 l45] _ := ⟨_, _, hS.re [5, 3, 3, 3] [] rfl sub_self⟩
   refine ED.quick hN hF hC [1] [2, 4, 5, 8, 9, 46] 11 [(2, pt a2 0), (4, pt a3 0), (5, pt a4 0), (8, pt a6 0), (9, pt a5 0), (46, .func (.func 78) #[] #[])] (bm 12 2) (by kernel_rfl) (by kernel_rfl) ?_
   refine ED.Y hN hF hC 0 10 (bm 12 3) (by kernel_rfl) (by kernel_rfl) rfl (fun _ _ _ hS => YO.loadBox hS 3 rfl 58 0 12 (ag (cellsS58 a42 (A43, C44))) 45 (by kernel_rfl) (by kernel_rfl) (by kernel_rfl) (by kernel_rfl)) ?_
   refine ED.Y hN hF hC 2 9 (bm 12 7) (by kernel_rfl) (by kernel_rfl) rfl (fun _ _ _ hS => YO.loadBox hS 1 rfl 91 0 13 (ag (cellsS91 (⟨a42, a0⟩ : S91) (A43, C44))) 47 (by kernel_rfl) (by kernel_rfl) (by kernel_rfl) (by kernel_rfl)) ?_
   refine ED.Y hN hF hC 4 8 (bm 12 23) (by kernel_rfl) (by kernel_rfl) rfl (fun _ _ _ hS => YO.loadBox hS 1 rfl 91 0 13 (ag (cellsS91 (⟨a42, a0⟩ : S91) (A43, C44))) 49 (by kernel_rfl) (by kernel_rfl) (by kernel_rfl) (by kernel_rfl)) ?_
   refine ED.Y hN hF hC 9 7 (bm 12 535) (by kernel_rfl) (by kernel_rfl) rfl (fun _ _ _ hS => YO.loadBox hS 0 rfl 63 0 3 (ag (encS63 {zS63 with f0 := 1})) 54 (by kernel_rfl) (by kernel_rfl) (by kernel_rfl) (by kernel_rfl)) ?_
   have hS : St B _ (Ass.box 63 a5 (encS63 {zS63 with f0 := 1}) :: Ass.box 91 a6 (cellsS91 (⟨a42, a0⟩ : S91) (A43, C44)) :: Ass.box 32 a1 [ia 4, ib a0] :: Ass.box 63 a4 (encS63 zS63) :: Ass.box 58 a3 (cellsS58 zS58 (none, 0)) :: Ass.box 58 a2 (cellsS58 a42 (A43, C44)) :: os) (Ro.sl (Kd.int .i32) A43 C44 a42.f3 :: Ro.sl (Kd.slice kS32) A46 C47 l45 :: rs) := hS.re [] [] rfl (sub_cons 0 rfl (sub_tail (sub_self)))
   have hq := task_act_top.calls t0 hS
   refine ED.one 3 6 (bm 12 543) (by kernel_rfl) (by kernel_rfl) (by kernel_rfl) (EO.callD 50 [ag (cellsS91 (⟨a42, a0⟩ : S91) (A43, C44)), ia 1] _ 48 (by kernel_rfl) (by kernel_rfl) (by kernel_rfl) hq ?_)
   rintro v w ⟨rfl, hS⟩
   have hC := hC.again ⟨_, _, hS.re [5, 3, 3, 3] [] rfl sub_self⟩
   refine ⟨hC, ?_⟩
   have hS : St B _ (Ass.box 63 a5 (encS63 {zS63 with f0 := 1}) :: Ass.box 91 a6 (cellsS91 (⟨a42, a0⟩ : S91) (A43, C44)) :: Ass.box 32 a1 [ia 4, ib a0] :: Ass.box 63 a4 (encS63 zS63) :: Ass.box 58 a3 (cellsS58 zS58 (none, 0)) :: Ass.box 58 a2 (cellsS58 a42 (A43, C44)) :: os) (Ro.sl (Kd.int .i32) A43 C44 a42.f3 :: Ro.sl (Kd.slice kS32) A46 C47 l45 :: rs) := hS.re [] [] rfl (sub_cons 0 rfl (sub_tail (sub_self)))
   have hq := task_act_top.calls t1 hS
   refine ED.one 5 5 (bm 12 575) (by kernel_rfl) (by kernel_rfl) (by kernel_rfl) (EO.callD 50 [ag (cellsS91 (⟨a42, a0⟩ : S91) (A43, C44)), ia 0] _ 50 (by kernel_rfl) (by kernel_rfl) (by kernel_rfl) hq ?_)
   rintro v w ⟨rfl, hS⟩
   have hC := hC.again ⟨_, _, hS.re [5, 3, 3, 3] [] rfl sub_self⟩
   refine ⟨hC, ?_⟩
   have hq := word_Add.calls t2 hS
   refine ED.one 6 4 (bm 12 639) (by kernel_rfl) (by kernel_rfl) (by kernel_rfl) (EO.callD 78 [ib m4, ib m5] _ 51 (by kernel_rfl) (by kernel_rfl) (by kernel_rfl) hq ?_)
   rintro v w ⟨rfl, hS⟩
   have hC := hC.again ⟨_, _, hS.re [5, 3, 3, 3] [] rfl sub_self⟩
   refine ⟨hC, ?_⟩
   refine ED.one 7 3 (bm 12 767) (by kernel_rfl) (by kernel_rfl) (by kernel_rfl) (EO.lit hS (Kd.int .i32) 21 54 1 #[(0, ib g9)] [ib g9] g3 52 (by kernel_rfl) (by kernel_rfl) (by kernel_rfl) (fun _ => (by kernel_rfl)) (by rw [o4]; rfl) (by kernel_rfl) (fun w G hr => (by rw [o4]; exact ⟨[ib g9], [], rfl, rfl, rfl⟩)) ?_)
   intro n8 w hS
   have hC := hC.again ⟨_, _, hS.re [6, 4, 4, 4] [] rfl sub_self⟩
   refine ⟨hC, ?_⟩
   have hS := St.fr hS 0 rfl
   have hS : St B _ (Ass.box 63 a5 (encS63 {zS63 with f0 := 1}) :: Ass.box 91 a6 (cellsS91 (⟨a42, a0⟩ : S91) (A43, C44)) :: Ass.box 32 a1 [ia 4, ib a0] :: Ass.box 63 a4 (encS63 zS63) :: Ass.box 58 a3 (cellsS58 zS58 (none, 0)) :: Ass.box 58 a2 (cellsS58 a42 (A43, C44)) :: os) (Ro.sl (Kd.int .i32) A43 C44 a42.f3 :: Ro.sl (Kd.int .i32) (some ⟨n8, 0, none⟩) 1 g3 :: Ro.sl (Kd.slice kS32) A46 C47 l45 :: rs) := hS.re [] [] rfl (sub_cons 1 rfl (sub_cons 0 rfl (sub_tail (sub_tail (sub_self)))))
   have hq := task_Drop.calls t3 hS
   refine ED.one 8 2 (bm 12 1023) (by kernel_rfl) (by kernel_rfl) (by kernel_rfl) (EO.callD 31 [ag (cellsS58 a42 (A43, C44)), ia 2, sv (some ⟨n8, 0, none⟩) 1 g3] _ 53 (by kernel_rfl) (by kernel_rfl) (by kernel_rfl) hq ?_)
   rintro v w ⟨d5, e9, rfl, hS⟩
   have hC := hC.again ⟨_, _, hS.re [5, 3, 3, 3] [] rfl (sub_cons 1 rfl (sub_cons 3 rfl sub_self))⟩
   refine ⟨hC, ?_⟩
   refine ED.one 10 1 (bm 12 2047) (by kernel_rfl) (by kernel_rfl) (by kernel_rfl) (EO.storeBox (os' := Ass.box 63 a5 (encS63 {zS63 with f0 := 1}) :: Ass.box 91 a6 (cellsS91 (⟨a42, a0⟩ : S91) (A43, C44)) :: Ass.box 32 a1 [ia 4, ib a0] :: Ass.box 63 a4 (encS63 zS63) :: Ass.box 58 a3 (cellsS58 c0 (d5, e9)) :: Ass.box 58 a2 (cellsS58 a42 (A43, C44)) :: os) hS 4 rfl 58 0 (ag (cellsS58 c0 (d5, e9))) (cellsS58 c0 (d5, e9)) (by kernel_rfl) (by kernel_rfl) (by kernel_rfl) (by kernel_rfl) (by kernel_rfl) (by kernel_rfl) rfl rfl ?_)
   intro w hS
   have hC := hC.again ⟨_, _, hS.re [5, 3, 3, 3] [] rfl (sub_cons 1 rfl (sub_cons 3 rfl sub_self))⟩
   refine ⟨hC, ?_⟩
   refine ED.one 11 0 (bm 12 4095) (by kernel_rfl) (by kernel_rfl) (by kernel_rfl) (EO.storeBox (os' := Ass.box 63 a5 (encS63 {zS63 with f0 := 1}) :: Ass.box 91 a6 (cellsS91 (⟨a42, a0⟩ : S91) (A43, C44)) :: Ass.box 32 a1 [ia 4, ib a0] :: Ass.box 63 a4 (encS63 {zS63 with f0 := 1}) :: Ass.box 58 a3 (cellsS58 c0 (d5, e9)) :: Ass.box 58 a2 (cellsS58 a42 (A43, C44)) :: os) hS 3 rfl 63 0 (ag (encS63 {zS63 with f0 := 1})) (encS63 {zS63 with f0 := 1}) (by kernel_rfl) (by kernel_rfl) (by kernel_rfl) (by kernel_rfl) (by kernel_rfl) (by kernel_rfl) rfl rfl ?_)
   intro w hS
   have hC := hC.again ⟨_, _, hS.re [5, 3, 3, 3] [] rfl (sub_cons 1 rfl (sub_cons 3 rfl sub_self))⟩
   refine ⟨hC, ?_⟩
   refine ED.done (by kernel_rfl) ?_
   refine EQ.code ?_
   refine EW.ret (by kernel_rfl) ?_
   refine EQ.ret ?_
   simp only [cellsS58, cellsS91, encS63, Option.some.injEq, Prod.mk.injEq] at H
   obtain ⟨rfl, rfl⟩ := H
   exact EQ.leave2 hS (.cell 4 58) (.cell 5 63) (ag (cellsS58 c0 (d5, e9))) (ag (encS63 {zS63 with f0 := 1})) (by kernel_rfl) ⟨4, 58, a3, (cellsS58 c0 (d5, e9)), 0, 12, rfl, (by kernel_rfl), (by kernel_rfl)⟩ ⟨3, 63, a4, (encS63 {zS63 with f0 := 1}), 0, 3, rfl, (by kernel_rfl), (by kernel_rfl)⟩ ⟨_, rfl, d5, e9, rfl, (hS.re [] [0, 0, 0, 0, 0, 0] rfl (sub_cons 0 rfl (sub_cons 1 rfl (sub_cons 3 rfl (sub_tail (sub_tail (sub_tail (sub_tail (sub_self)))))))))⟩
  rw [if_neg j3] at H
  by_cases j4 : a7 = 5
  ·rw [if_pos j4] at H
   refine EW.keep [2, 4, 5, 6, 8, 9] [(2, pt a2 0), (4, pt a3 0), (5, pt a4 0), (6, pt a1 0), (8, pt a6 0), (9, pt a5 0)] (by kernel_rfl) ?_
   have hS := St.as (os' := Ass.box 63 a5 (encS63 {zS63 with f0 := 1}) :: Ass.box 91 a6 (cellsS91 (⟨a42, a0⟩ : S91) (A43, C44)) :: Ass.box 32 a1 [ia 5, ib a0] :: Ass.box 63 a4 (encS63 zS63) :: Ass.box 58 a3 (cellsS58 zS58 (none, 0)) :: Ass.box 58 a2 (cellsS58 a42 (A43, C44)) :: os) hS (by simp only [cellsS58, cellsS91, encS63, j4])
   obtain ⟨_, t4, H⟩ := b1_out H
   have hS := hS.drew
   refine EW.dr (B := B) [Ass.box 63 a5 (encS63 {zS63 with f0 := 1}), Ass.box 91 a6 (cellsS91 (⟨a42, a0⟩ : S91) (A43, C44)), Ass.box 32 a1 [ia 5, ib a0], Ass.box 63 a4 (encS63 zS63), Ass.box 58 a3 (cellsS58 zS58 (none, 0)), Ass.box 58 a2 (cellsS58 a42 (A43, C44))] [Ro.sl (Kd.int .i32) A43 C44 a42.f3, Ro.sl (Kd.slice kS32) A46 C47 l45] (by kernel_rfl) (by kernel_rfl) ?_
   have hN : Region.noSelect Cd28.r.r.r.r.r.l.l.ops = true := (by kernel_rfl)
   have hF : freeAll Cd28.r.r.r.r.r.l.l.ops = true := (by kernel_rfl)
   have hC : Core B [Ass.box 63 a5 (encS63 {zS63 with f0 := 1}), Ass.box 91 a6 (cellsS91 (⟨a42, a0⟩ : S91) (A43, C44)), Ass.box 32 a1 [ia 5, ib a0], Ass.box 63 a4 (encS63 zS63), Ass.box 58 a3 (cellsS58 zS58 (none, 0)), Ass.box 58 a2 (cellsS58 a42 (A43, C44))] [Ro.sl (Kd.int .i32) A43 C44 a42.f3, Ro.sl (Kd.slice kS32) A46 C47 l45] _ := ⟨_, _, hS⟩
   refine ED.quick hN hF hC [1] [2, 4, 5, 6, 8, 9, 40] 4 [(2, pt a2 0), (4, pt a3 0), (5, pt a4 0), (6, pt a1 0), (8, pt a6 0), (9, pt a5 0), (40, pt a1 0)] (bm 5 2) (by kernel_rfl) (by kernel_rfl) ?_
   refine ED.Y hN hF hC 2 3 (bm 5 6) (by kernel_rfl) (by kernel_rfl) rfl (fun _ _ _ hS => YO.loadBox hS 2 rfl 3 0 1 (ia 5) 41 (by kernel_rfl) (by kernel_rfl) (by kernel_rfl) (by kernel_rfl)) ?_
   have hq := task_two.calls t4 hS
   refine ED.one 0 2 (bm 5 7) (by kernel_rfl) (by kernel_rfl) (by kernel_rfl) (EO.callD 49 [] _ 39 (by kernel_rfl) (by kernel_rfl) (by kernel_rfl) hq ?_)
   rintro v w ⟨rfl, hS⟩
   have hC := hC.again ⟨_, _, hS⟩
   refine ⟨hC, ?_⟩
   refine ED.quick hN hF hC [3, 4] [2, 4, 5, 6, 8, 9, 11] 0 [(2, pt a2 0), (4, pt a3 0), (5, pt a4 0), (6, pt a1 0), (8, pt a6 0), (9, pt a5 0), (11, .func (.func 79) #[] #[])] (bm 5 31) (by kernel_rfl) (by kernel_rfl) ?_
   refine ED.done (by kernel_rfl) ?_
   refine EQ.code ?_
   refine EW.sq (by kernel_rfl) ?_
   refine EW.rg (by kernel_rfl) ?_
   refine EL.quick 2 [2, 4, 5, 6, 8, 9, 11, 44] [(2, pt a2 0), (4, pt a3 0), (5, pt a4 0), (6, pt a1 0), (8, pt a6 0), (9, pt a5 0), (11, .func (.func 79) #[] #[]), (44, .bool (true))] (by kernel_rfl) ?_
   refine EL.done (by kernel_rfl) ?_
   refine EQ.code ?_
   refine EW.cdT (by kernel_rfl) (by kernel_rfl) ?_
   refine EW.sq (by kernel_rfl) ?_
   obtain ⟨m6, t5, H⟩ := b1_out H
   obtain ⟨m7, t6, H⟩ := b1_out H
   obtain ⟨i0, t7, H⟩ := b1_out H
   obtain ⟨g4, o5, H⟩ := lt_out H
   obtain ⟨c1, t8, H⟩ := b1_out H
   have hS := hS.drew
   refine EW.dr (B := B) [Ass.box 63 a5 (encS63 {zS63 with f0 := 1}), Ass.box 91 a6 (cellsS91 (⟨a42, a0⟩ : S91) (A43, C44)), Ass.box 32 a1 [ia 5, ib a0], Ass.box 58 a2 (cellsS58 a42 (A43, C44))] [Ro.sl (Kd.int .i32) A43 C44 a42.f3, Ro.sl (Kd.slice kS32) A46 C47 l45] (by kernel_rfl) (by kernel_rfl) ?_
   have hN : Region.noSelect Cd28.r.r.r.r.r.l.r.r.l.l.ops = true := (by kernel_rfl)
   have hF : freeAll Cd28.r.r.r.r.r.l.r.r.l.l.ops = true := (by kernel_rfl)
   have hC : Core B [Ass.box 63 a5 (encS63 {zS63 with f0 := 1}), Ass.box 91 a6 (cellsS91 (⟨a42, a0⟩ : S91) (A43, C44)), Ass.box 32 a1 [ia 5, ib a0], Ass.box 58 a2 (cellsS58 a42 (A43, C44))] [Ro.sl (Kd.int .i32) A43 C44 a42.f3, Ro.sl (Kd.slice kS32) A46 C47 l45] _ := ⟨_, _, hS.re [5, 3, 3, 3] [] rfl sub_self⟩
   refine ED.quick hN hF hC [1] [2, 4, 5, 8, 9, 46] 11 [(2, pt a2 0), (4, pt a3 0), (5, pt a4 0), (8, pt a6 0), (9, pt a5 0), (46, .func (.func 79) #[] #[])] (bm 12 2) (by kernel_rfl) (by kernel_rfl) ?_
   refine ED.Y hN hF hC 0 10 (bm 12 3) (by kernel_rfl) (by kernel_rfl) rfl (fun _ _ _ hS => YO.loadBox hS 3 rfl 58 0 12 (ag (cellsS58 a42 (A43, C44))) 45 (by kernel_rfl) (by kernel_rfl) (by kernel_rfl) (by kernel_rfl)) ?_
   refine ED.Y hN hF hC 2 9 (bm 12 7) (by kernel_rfl) (by kernel_rfl) rfl (fun _ _ _ hS => YO.loadBox hS 1 rfl 91 0 13 (ag (cellsS91 (⟨a42, a0⟩ : S91) (A43, C44))) 47 (by kernel_rfl) (by kernel_rfl) (by kernel_rfl) (by kernel_rfl)) ?_
   refine ED.Y hN hF hC 4 8 (bm 12 23) (by kernel_rfl) (by kernel_rfl) rfl (fun _ _ _ hS => YO.loadBox hS 1 rfl 91 0 13 (ag (cellsS91 (⟨a42, a0⟩ : S91) (A43, C44))) 49 (by kernel_rfl) (by kernel_rfl) (by kernel_rfl) (by kernel_rfl)) ?_
   refine ED.Y hN hF hC 9 7 (bm 12 535) (by kernel_rfl) (by kernel_rfl) rfl (fun _ _ _ hS => YO.loadBox hS 0 rfl 63 0 3 (ag (encS63 {zS63 with f0 := 1})) 54 (by kernel_rfl) (by kernel_rfl) (by kernel_rfl) (by kernel_rfl)) ?_
   have hS : St B _ (Ass.box 63 a5 (encS63 {zS63 with f0 := 1}) :: Ass.box 91 a6 (cellsS91 (⟨a42, a0⟩ : S91) (A43, C44)) :: Ass.box 32 a1 [ia 5, ib a0] :: Ass.box 63 a4 (encS63 zS63) :: Ass.box 58 a3 (cellsS58 zS58 (none, 0)) :: Ass.box 58 a2 (cellsS58 a42 (A43, C44)) :: os) (Ro.sl (Kd.int .i32) A43 C44 a42.f3 :: Ro.sl (Kd.slice kS32) A46 C47 l45 :: rs) := hS.re [] [] rfl (sub_cons 0 rfl (sub_tail (sub_self)))
   have hq := task_act_top.calls t5 hS
   refine ED.one 3 6 (bm 12 543) (by kernel_rfl) (by kernel_rfl) (by kernel_rfl) (EO.callD 50 [ag (cellsS91 (⟨a42, a0⟩ : S91) (A43, C44)), ia 1] _ 48 (by kernel_rfl) (by kernel_rfl) (by kernel_rfl) hq ?_)
   rintro v w ⟨rfl, hS⟩
   have hC := hC.again ⟨_, _, hS.re [5, 3, 3, 3] [] rfl sub_self⟩
   refine ⟨hC, ?_⟩
   have hS : St B _ (Ass.box 63 a5 (encS63 {zS63 with f0 := 1}) :: Ass.box 91 a6 (cellsS91 (⟨a42, a0⟩ : S91) (A43, C44)) :: Ass.box 32 a1 [ia 5, ib a0] :: Ass.box 63 a4 (encS63 zS63) :: Ass.box 58 a3 (cellsS58 zS58 (none, 0)) :: Ass.box 58 a2 (cellsS58 a42 (A43, C44)) :: os) (Ro.sl (Kd.int .i32) A43 C44 a42.f3 :: Ro.sl (Kd.slice kS32) A46 C47 l45 :: rs) := hS.re [] [] rfl (sub_cons 0 rfl (sub_tail (sub_self)))
   have hq := task_act_top.calls t6 hS
   refine ED.one 5 5 (bm 12 575) (by kernel_rfl) (by kernel_rfl) (by kernel_rfl) (EO.callD 50 [ag (cellsS91 (⟨a42, a0⟩ : S91) (A43, C44)), ia 0] _ 50 (by kernel_rfl) (by kernel_rfl) (by kernel_rfl) hq ?_)
   rintro v w ⟨rfl, hS⟩
   have hC := hC.again ⟨_, _, hS.re [5, 3, 3, 3] [] rfl sub_self⟩
   refine ⟨hC, ?_⟩
   have hq := word_Sub.calls t7 hS
   refine ED.one 6 4 (bm 12 639) (by kernel_rfl) (by kernel_rfl) (by kernel_rfl) (EO.callD 79 [ib m6, ib m7] _ 51 (by kernel_rfl) (by kernel_rfl) (by kernel_rfl) hq ?_)
   rintro v w ⟨rfl, hS⟩
   have hC := hC.again ⟨_, _, hS.re [5, 3, 3, 3] [] rfl sub_self⟩
   refine ⟨hC, ?_⟩
   refine ED.one 7 3 (bm 12 767) (by kernel_rfl) (by kernel_rfl) (by kernel_rfl) (EO.lit hS (Kd.int .i32) 21 54 1 #[(0, ib i0)] [ib i0] g4 52 (by kernel_rfl) (by kernel_rfl) (by kernel_rfl) (fun _ => (by kernel_rfl)) (by rw [o5]; rfl) (by kernel_rfl) (fun w G hr => (by rw [o5]; exact ⟨[ib i0], [], rfl, rfl, rfl⟩)) ?_)
   intro n9 w hS
   have hC := hC.again ⟨_, _, hS.re [6, 4, 4, 4] [] rfl sub_self⟩
   refine ⟨hC, ?_⟩
   have hS := St.fr hS 0 rfl
   have hS : St B _ (Ass.box 63 a5 (encS63 {zS63 with f0 := 1}) :: Ass.box 91 a6 (cellsS91 (⟨a42, a0⟩ : S91) (A43, C44)) :: Ass.box 32 a1 [ia 5, ib a0] :: Ass.box 63 a4 (encS63 zS63) :: Ass.box 58 a3 (cellsS58 zS58 (none, 0)) :: Ass.box 58 a2 (cellsS58 a42 (A43, C44)) :: os) (Ro.sl (Kd.int .i32) A43 C44 a42.f3 :: Ro.sl (Kd.int .i32) (some ⟨n9, 0, none⟩) 1 g4 :: Ro.sl (Kd.slice kS32) A46 C47 l45 :: rs) := hS.re [] [] rfl (sub_cons 1 rfl (sub_cons 0 rfl (sub_tail (sub_tail (sub_self)))))
   have hq := task_Drop.calls t8 hS
   refine ED.one 8 2 (bm 12 1023) (by kernel_rfl) (by kernel_rfl) (by kernel_rfl) (EO.callD 31 [ag (cellsS58 a42 (A43, C44)), ia 2, sv (some ⟨n9, 0, none⟩) 1 g4] _ 53 (by kernel_rfl) (by kernel_rfl) (by kernel_rfl) hq ?_)
   rintro v w ⟨d6, f1, rfl, hS⟩
   have hC := hC.again ⟨_, _, hS.re [5, 3, 3, 3] [] rfl (sub_cons 1 rfl (sub_cons 3 rfl sub_self))⟩
   refine ⟨hC, ?_⟩
   refine ED.one 10 1 (bm 12 2047) (by kernel_rfl) (by kernel_rfl) (by kernel_rfl) (EO.storeBox (os' := Ass.box 63 a5 (encS63 {zS63 with f0 := 1}) :: Ass.box 91 a6 (cellsS91 (⟨a42, a0⟩ : S91) (A43, C44)) :: Ass.box 32 a1 [ia 5, ib a0] :: Ass.box 63 a4 (encS63 zS63) :: Ass.box 58 a3 (cellsS58 c1 (d6, f1)) :: Ass.box 58 a2 (cellsS58 a42 (A43, C44)) :: os) hS 4 rfl 58 0 (ag (cellsS58 c1 (d6, f1))) (cellsS58 c1 (d6, f1)) (by kernel_rfl) (by kernel_rfl) (by kernel_rfl) (by kernel_rfl) (by kernel_rfl) (by kernel_rfl) rfl rfl ?_)
   intro w hS
   have hC := hC.again ⟨_, _, hS.re [5, 3, 3, 3] [] rfl (sub_cons 1 rfl (sub_cons 3 rfl sub_self))⟩
   refine ⟨hC, ?_⟩
   refine ED.one 11 0 (bm 12 4095) (by kernel_rfl) (by kernel_rfl) (by kernel_rfl) (EO.storeBox (os' := Ass.box 63 a5 (encS63 {zS63 with f0 := 1}) :: Ass.box 91 a6 (cellsS91 (⟨a42, a0⟩ : S91) (A43, C44)) :: Ass.box 32 a1 [ia 5, ib a0] :: Ass.box 63 a4 (encS63 {zS63 with f0 := 1}) :: Ass.box 58 a3 (cellsS58 c1 (d6, f1)) :: Ass.box 58 a2 (cellsS58 a42 (A43, C44)) :: os) hS 3 rfl 63 0 (ag (encS63 {zS63 with f0 := 1})) (encS63 {zS63 with f0 := 1}) (by kernel_rfl) (by kernel_rfl) (by kernel_rfl) (by kernel_rfl) (by kernel_rfl) (by kernel_rfl) rfl rfl ?_)
   intro w hS
   have hC := hC.again ⟨_, _, hS.re [5, 3, 3, 3] [] rfl (sub_cons 1 rfl (sub_cons 3 rfl sub_self))⟩
   refine ⟨hC, ?_⟩
   refine ED.done (by kernel_rfl) ?_
   refine EQ.code ?_
   refine EW.ret (by kernel_rfl) ?_
   refine EQ.ret ?_
   simp only [cellsS58, cellsS91, encS63, Option.some.injEq, Prod.mk.injEq] at H
   obtain ⟨rfl, rfl⟩ := H
   exact EQ.leave2 hS (.cell 4 58) (.cell 5 63) (ag (cellsS58 c1 (d6, f1))) (ag (encS63 {zS63 with f0 := 1})) (by kernel_rfl) ⟨4, 58, a3, (cellsS58 c1 (d6, f1)), 0, 12, rfl, (by kernel_rfl), (by kernel_rfl)⟩ ⟨3, 63, a4, (encS63 {zS63 with f0 := 1}), 0, 3, rfl, (by kernel_rfl), (by kernel_rfl)⟩ ⟨_, rfl, d6, f1, rfl, (hS.re [] [0, 0, 0, 0, 0, 0] rfl (sub_cons 0 rfl (sub_cons 1 rfl (sub_cons 3 rfl (sub_tail (sub_tail (sub_tail (sub_tail (sub_self)))))))))⟩
  rw [if_neg j4] at H
  by_cases j5 : a7 = 6
  ·rw [if_pos j5] at H
   refine EW.keep [2, 4, 5, 6, 8, 9] [(2, pt a2 0), (4, pt a3 0), (5, pt a4 0), (6, pt a1 0), (8, pt a6 0), (9, pt a5 0)] (by kernel_rfl) ?_
   have hS := St.as (os' := Ass.box 63 a5 (encS63 {zS63 with f0 := 1}) :: Ass.box 91 a6 (cellsS91 (⟨a42, a0⟩ : S91) (A43, C44)) :: Ass.box 32 a1 [ia 6, ib a0] :: Ass.box 63 a4 (encS63 zS63) :: Ass.box 58 a3 (cellsS58 zS58 (none, 0)) :: Ass.box 58 a2 (cellsS58 a42 (A43, C44)) :: os) hS (by simp only [cellsS58, cellsS91, encS63, j5])
   obtain ⟨_, t9, H⟩ := b1_out H
   have hS := hS.drew
   refine EW.dr (B := B) [Ass.box 63 a5 (encS63 {zS63 with f0 := 1}), Ass.box 91 a6 (cellsS91 (⟨a42, a0⟩ : S91) (A43, C44)), Ass.box 32 a1 [ia 6, ib a0], Ass.box 63 a4 (encS63 zS63), Ass.box 58 a3 (cellsS58 zS58 (none, 0)), Ass.box 58 a2 (cellsS58 a42 (A43, C44))] [Ro.sl (Kd.int .i32) A43 C44 a42.f3, Ro.sl (Kd.slice kS32) A46 C47 l45] (by kernel_rfl) (by kernel_rfl) ?_
   have hN : Region.noSelect Cd28.r.r.r.r.r.l.l.ops = true := (by kernel_rfl)
   have hF : freeAll Cd28.r.r.r.r.r.l.l.ops = true := (by kernel_rfl)
   have hC : Core B [Ass.box 63 a5 (encS63 {zS63 with f0 := 1}), Ass.box 91 a6 (cellsS91 (⟨a42, a0⟩ : S91) (A43, C44)), Ass.box 32 a1 [ia 6, ib a0], Ass.box 63 a4 (encS63 zS63), Ass.box 58 a3 (cellsS58 zS58 (none, 0)), Ass.box 58 a2 (cellsS58 a42 (A43, C44))] [Ro.sl (Kd.int .i32) A43 C44 a42.f3, Ro.sl (Kd.slice kS32) A46 C47 l45] _ := ⟨_, _, hS⟩
   refine ED.quick hN hF hC [1] [2, 4, 5, 6, 8, 9, 40] 4 [(2, pt a2 0), (4, pt a3 0), (5, pt a4 0), (6, pt a1 0), (8, pt a6 0), (9, pt a5 0), (40, pt a1 0)] (bm 5 2) (by kernel_rfl) (by kernel_rfl) ?_
   refine ED.Y hN hF hC 2 3 (bm 5 6) (by kernel_rfl) (by kernel_rfl) rfl (fun _ _ _ hS => YO.loadBox hS 2 rfl 3 0 1 (ia 6) 41 (by kernel_rfl) (by kernel_rfl) (by kernel_rfl) (by kernel_rfl)) ?_
   have hq := task_two.calls t9 hS
   refine ED.one 0 2 (bm 5 7) (by kernel_rfl) (by kernel_rfl) (by kernel_rfl) (EO.callD 49 [] _ 39 (by kernel_rfl) (by kernel_rfl) (by kernel_rfl) hq ?_)
   rintro v w ⟨rfl, hS⟩
   have hC := hC.again ⟨_, _, hS⟩
   refine ⟨hC, ?_⟩
   refine ED.quick hN hF hC [3, 4] [2, 4, 5, 6, 8, 9, 11] 0 [(2, pt a2 0), (4, pt a3 0), (5, pt a4 0), (6, pt a1 0), (8, pt a6 0), (9, pt a5 0), (11, .func (.func 80) #[] #[])] (bm 5 31) (by kernel_rfl) (by kernel_rfl) ?_
   refine ED.done (by kernel_rfl) ?_
   refine EQ.code ?_
   refine EW.sq (by kernel_rfl) ?_
   refine EW.rg (by kernel_rfl) ?_
   refine EL.quick 2 [2, 4, 5, 6, 8, 9, 11, 44] [(2, pt a2 0), (4, pt a3 0), (5, pt a4 0), (6, pt a1 0), (8, pt a6 0), (9, pt a5 0), (11, .func (.func 80) #[] #[]), (44, .bool (true))] (by kernel_rfl) ?_
   refine EL.done (by kernel_rfl) ?_
   refine EQ.code ?_
   refine EW.cdT (by kernel_rfl) (by kernel_rfl) ?_
   refine EW.sq (by kernel_rfl) ?_
   obtain ⟨m8, u0, H⟩ := b1_out H
   obtain ⟨m9, u1, H⟩ := b1_out H
   obtain ⟨i1, u2, H⟩ := b1_out H
   obtain ⟨g5, o6, H⟩ := lt_out H
   obtain ⟨c2, u3, H⟩ := b1_out H
   have hS := hS.drew
   refine EW.dr (B := B) [Ass.box 63 a5 (encS63 {zS63 with f0 := 1}), Ass.box 91 a6 (cellsS91 (⟨a42, a0⟩ : S91) (A43, C44)), Ass.box 32 a1 [ia 6, ib a0], Ass.box 58 a2 (cellsS58 a42 (A43, C44))] [Ro.sl (Kd.int .i32) A43 C44 a42.f3, Ro.sl (Kd.slice kS32) A46 C47 l45] (by kernel_rfl) (by kernel_rfl) ?_
   have hN : Region.noSelect Cd28.r.r.r.r.r.l.r.r.l.l.ops = true := (by kernel_rfl)
   have hF : freeAll Cd28.r.r.r.r.r.l.r.r.l.l.ops = true := (by kernel_rfl)
   have hC : Core B [Ass.box 63 a5 (encS63 {zS63 with f0 := 1}), Ass.box 91 a6 (cellsS91 (⟨a42, a0⟩ : S91) (A43, C44)), Ass.box 32 a1 [ia 6, ib a0], Ass.box 58 a2 (cellsS58 a42 (A43, C44))] [Ro.sl (Kd.int .i32) A43 C44 a42.f3, Ro.sl (Kd.slice kS32) A46 C47 l45] _ := ⟨_, _, hS.re [5, 3, 3, 3] [] rfl sub_self⟩
   refine ED.quick hN hF hC [1] [2, 4, 5, 8, 9, 46] 11 [(2, pt a2 0), (4, pt a3 0), (5, pt a4 0), (8, pt a6 0), (9, pt a5 0), (46, .func (.func 80) #[] #[])] (bm 12 2) (by kernel_rfl) (by kernel_rfl) ?_
   refine ED.Y hN hF hC 0 10 (bm 12 3) (by kernel_rfl) (by kernel_rfl) rfl (fun _ _ _ hS => YO.loadBox hS 3 rfl 58 0 12 (ag (cellsS58 a42 (A43, C44))) 45 (by kernel_rfl) (by kernel_rfl) (by kernel_rfl) (by kernel_rfl)) ?_
   refine ED.Y hN hF hC 2 9 (bm 12 7) (by kernel_rfl) (by kernel_rfl) rfl (fun _ _ _ hS => YO.loadBox hS 1 rfl 91 0 13 (ag (cellsS91 (⟨a42, a0⟩ : S91) (A43, C44))) 47 (by kernel_rfl) (by kernel_rfl) (by kernel_rfl) (by kernel_rfl)) ?_
   refine ED.Y hN hF hC 4 8 (bm 12 23) (by kernel_rfl) (by kernel_rfl) rfl (fun _ _ _ hS => YO.loadBox hS 1 rfl 91 0 13 (ag (cellsS91 (⟨a42, a0⟩ : S91) (A43, C44))) 49 (by kernel_rfl) (by kernel_rfl) (by kernel_rfl) (by kernel_rfl)) ?_
   refine ED.Y hN hF hC 9 7 (bm 12 535) (by kernel_rfl) (by kernel_rfl) rfl (fun _ _ _ hS => YO.loadBox hS 0 rfl 63 0 3 (ag (encS63 {zS63 with f0 := 1})) 54 (by kernel_rfl) (by kernel_rfl) (by kernel_rfl) (by kernel_rfl)) ?_
   have hS : St B _ (Ass.box 63 a5 (encS63 {zS63 with f0 := 1}) :: Ass.box 91 a6 (cellsS91 (⟨a42, a0⟩ : S91) (A43, C44)) :: Ass.box 32 a1 [ia 6, ib a0] :: Ass.box 63 a4 (encS63 zS63) :: Ass.box 58 a3 (cellsS58 zS58 (none, 0)) :: Ass.box 58 a2 (cellsS58 a42 (A43, C44)) :: os) (Ro.sl (Kd.int .i32) A43 C44 a42.f3 :: Ro.sl (Kd.slice kS32) A46 C47 l45 :: rs) := hS.re [] [] rfl (sub_cons 0 rfl (sub_tail (sub_self)))
   have hq := task_act_top.calls u0 hS
   refine ED.one 3 6 (bm 12 543) (by kernel_rfl) (by kernel_rfl) (by kernel_rfl) (EO.callD 50 [ag (cellsS91 (⟨a42, a0⟩ : S91) (A43, C44)), ia 1] _ 48 (by kernel_rfl) (by kernel_rfl) (by kernel_rfl) hq ?_)
   rintro v w ⟨rfl, hS⟩
   have hC := hC.again ⟨_, _, hS.re [5, 3, 3, 3] [] rfl sub_self⟩
   refine ⟨hC, ?_⟩
   have hS : St B _ (Ass.box 63 a5 (encS63 {zS63 with f0 := 1}) :: Ass.box 91 a6 (cellsS91 (⟨a42, a0⟩ : S91) (A43, C44)) :: Ass.box 32 a1 [ia 6, ib a0] :: Ass.box 63 a4 (encS63 zS63) :: Ass.box 58 a3 (cellsS58 zS58 (none, 0)) :: Ass.box 58 a2 (cellsS58 a42 (A43, C44)) :: os) (Ro.sl (Kd.int .i32) A43 C44 a42.f3 :: Ro.sl (Kd.slice kS32) A46 C47 l45 :: rs) := hS.re [] [] rfl (sub_cons 0 rfl (sub_tail (sub_self)))
   have hq := task_act_top.calls u1 hS
   refine ED.one 5 5 (bm 12 575) (by kernel_rfl) (by kernel_rfl) (by kernel_rfl) (EO.callD 50 [ag (cellsS91 (⟨a42, a0⟩ : S91) (A43, C44)), ia 0] _ 50 (by kernel_rfl) (by kernel_rfl) (by kernel_rfl) hq ?_)
   rintro v w ⟨rfl, hS⟩
   have hC := hC.again ⟨_, _, hS.re [5, 3, 3, 3] [] rfl sub_self⟩
   refine ⟨hC, ?_⟩
   have hq := word_Mul.calls u2 hS
   refine ED.one 6 4 (bm 12 639) (by kernel_rfl) (by kernel_rfl) (by kernel_rfl) (EO.callD 80 [ib m8, ib m9] _ 51 (by kernel_rfl) (by kernel_rfl) (by kernel_rfl) hq ?_)
   rintro v w ⟨rfl, hS⟩
   have hC := hC.again ⟨_, _, hS.re [5, 3, 3, 3] [] rfl sub_self⟩
   refine ⟨hC, ?_⟩
   refine ED.one 7 3 (bm 12 767) (by kernel_rfl) (by kernel_rfl) (by kernel_rfl) (EO.lit hS (Kd.int .i32) 21 54 1 #[(0, ib i1)] [ib i1] g5 52 (by kernel_rfl) (by kernel_rfl) (by kernel_rfl) (fun _ => (by kernel_rfl)) (by rw [o6]; rfl) (by kernel_rfl) (fun w G hr => (by rw [o6]; exact ⟨[ib i1], [], rfl, rfl, rfl⟩)) ?_)
   intro o0 w hS
   have hC := hC.again ⟨_, _, hS.re [6, 4, 4, 4] [] rfl sub_self⟩
   refine ⟨hC, ?_⟩
   have hS := St.fr hS 0 rfl
   have hS : St B _ (Ass.box 63 a5 (encS63 {zS63 with f0 := 1}) :: Ass.box 91 a6 (cellsS91 (⟨a42, a0⟩ : S91) (A43, C44)) :: Ass.box 32 a1 [ia 6, ib a0] :: Ass.box 63 a4 (encS63 zS63) :: Ass.box 58 a3 (cellsS58 zS58 (none, 0)) :: Ass.box 58 a2 (cellsS58 a42 (A43, C44)) :: os) (Ro.sl (Kd.int .i32) A43 C44 a42.f3 :: Ro.sl (Kd.int .i32) (some ⟨o0, 0, none⟩) 1 g5 :: Ro.sl (Kd.slice kS32) A46 C47 l45 :: rs) := hS.re [] [] rfl (sub_cons 1 rfl (sub_cons 0 rfl (sub_tail (sub_tail (sub_self)))))
   have hq := task_Drop.calls u3 hS
   refine ED.one 8 2 (bm 12 1023) (by kernel_rfl) (by kernel_rfl) (by kernel_rfl) (EO.callD 31 [ag (cellsS58 a42 (A43, C44)), ia 2, sv (some ⟨o0, 0, none⟩) 1 g5] _ 53 (by kernel_rfl) (by kernel_rfl) (by kernel_rfl) hq ?_)
   rintro v w ⟨d7, f2, rfl, hS⟩
   have hC := hC.again ⟨_, _, hS.re [5, 3, 3, 3] [] rfl (sub_cons 1 rfl (sub_cons 3 rfl sub_self))⟩
   refine ⟨hC, ?_⟩
   refine ED.one 10 1 (bm 12 2047) (by kernel_rfl) (by kernel_rfl) (by kernel_rfl) (EO.storeBox (os' := Ass.box 63 a5 (encS63 {zS63 with f0 := 1}) :: Ass.box 91 a6 (cellsS91 (⟨a42, a0⟩ : S91) (A43, C44)) :: Ass.box 32 a1 [ia 6, ib a0] :: Ass.box 63 a4 (encS63 zS63) :: Ass.box 58 a3 (cellsS58 c2 (d7, f2)) :: Ass.box 58 a2 (cellsS58 a42 (A43, C44)) :: os) hS 4 rfl 58 0 (ag (cellsS58 c2 (d7, f2))) (cellsS58 c2 (d7, f2)) (by kernel_rfl) (by kernel_rfl) (by kernel_rfl) (by kernel_rfl) (by kernel_rfl) (by kernel_rfl) rfl rfl ?_)
   intro w hS
   have hC := hC.again ⟨_, _, hS.re [5, 3, 3, 3] [] rfl (sub_cons 1 rfl (sub_cons 3 rfl sub_self))⟩
   refine ⟨hC, ?_⟩
   refine ED.one 11 0 (bm 12 4095) (by kernel_rfl) (by kernel_rfl) (by kernel_rfl) (EO.storeBox (os' := Ass.box 63 a5 (encS63 {zS63 with f0 := 1}) :: Ass.box 91 a6 (cellsS91 (⟨a42, a0⟩ : S91) (A43, C44)) :: Ass.box 32 a1 [ia 6, ib a0] :: Ass.box 63 a4 (encS63 {zS63 with f0 := 1}) :: Ass.box 58 a3 (cellsS58 c2 (d7, f2)) :: Ass.box 58 a2 (cellsS58 a42 (A43, C44)) :: os) hS 3 rfl 63 0 (ag (encS63 {zS63 with f0 := 1})) (encS63 {zS63 with f0 := 1}) (by kernel_rfl) (by kernel_rfl) (by kernel_rfl) (by kernel_rfl) (by kernel_rfl) (by kernel_rfl) rfl rfl ?_)
   intro w hS
   have hC := hC.again ⟨_, _, hS.re [5, 3, 3, 3] [] rfl (sub_cons 1 rfl (sub_cons 3 rfl sub_self))⟩
   refine ⟨hC, ?_⟩
   refine ED.done (by kernel_rfl) ?_
   refine EQ.code ?_
   refine EW.ret (by kernel_rfl) ?_
   refine EQ.ret ?_
   simp only [cellsS58, cellsS91, encS63, Option.some.injEq, Prod.mk.injEq] at H
   obtain ⟨rfl, rfl⟩ := H
   exact EQ.leave2 hS (.cell 4 58) (.cell 5 63) (ag (cellsS58 c2 (d7, f2))) (ag (encS63 {zS63 with f0 := 1})) (by kernel_rfl) ⟨4, 58, a3, (cellsS58 c2 (d7, f2)), 0, 12, rfl, (by kernel_rfl), (by kernel_rfl)⟩ ⟨3, 63, a4, (encS63 {zS63 with f0 := 1}), 0, 3, rfl, (by kernel_rfl), (by kernel_rfl)⟩ ⟨_, rfl, d7, f2, rfl, (hS.re [] [0, 0, 0, 0, 0, 0] rfl (sub_cons 0 rfl (sub_cons 1 rfl (sub_cons 3 rfl (sub_tail (sub_tail (sub_tail (sub_tail (sub_self)))))))))⟩
  rw [if_neg j5] at H
  by_cases j6 : a7 = 8
  ·rw [if_pos j6] at H
   refine EW.keep [2, 4, 5, 6, 8, 9] [(2, pt a2 0), (4, pt a3 0), (5, pt a4 0), (6, pt a1 0), (8, pt a6 0), (9, pt a5 0)] (by kernel_rfl) ?_
   have hS := St.as (os' := Ass.box 63 a5 (encS63 {zS63 with f0 := 1}) :: Ass.box 91 a6 (cellsS91 (⟨a42, a0⟩ : S91) (A43, C44)) :: Ass.box 32 a1 [ia 8, ib a0] :: Ass.box 63 a4 (encS63 zS63) :: Ass.box 58 a3 (cellsS58 zS58 (none, 0)) :: Ass.box 58 a2 (cellsS58 a42 (A43, C44)) :: os) hS (by simp only [cellsS58, cellsS91, encS63, j6])
   obtain ⟨_, u4, H⟩ := b1_out H
   have hS := hS.drew
   refine EW.dr (B := B) [Ass.box 63 a5 (encS63 {zS63 with f0 := 1}), Ass.box 91 a6 (cellsS91 (⟨a42, a0⟩ : S91) (A43, C44)), Ass.box 32 a1 [ia 8, ib a0], Ass.box 63 a4 (encS63 zS63), Ass.box 58 a3 (cellsS58 zS58 (none, 0)), Ass.box 58 a2 (cellsS58 a42 (A43, C44))] [Ro.sl (Kd.int .i32) A43 C44 a42.f3, Ro.sl (Kd.slice kS32) A46 C47 l45] (by kernel_rfl) (by kernel_rfl) ?_
   have hN : Region.noSelect Cd28.r.r.r.r.r.l.l.ops = true := (by kernel_rfl)
   have hF : freeAll Cd28.r.r.r.r.r.l.l.ops = true := (by kernel_rfl)
   have hC : Core B [Ass.box 63 a5 (encS63 {zS63 with f0 := 1}), Ass.box 91 a6 (cellsS91 (⟨a42, a0⟩ : S91) (A43, C44)), Ass.box 32 a1 [ia 8, ib a0], Ass.box 63 a4 (encS63 zS63), Ass.box 58 a3 (cellsS58 zS58 (none, 0)), Ass.box 58 a2 (cellsS58 a42 (A43, C44))] [Ro.sl (Kd.int .i32) A43 C44 a42.f3, Ro.sl (Kd.slice kS32) A46 C47 l45] _ := ⟨_, _, hS⟩
   refine ED.quick hN hF hC [1] [2, 4, 5, 6, 8, 9, 40] 4 [(2, pt a2 0), (4, pt a3 0), (5, pt a4 0), (6, pt a1 0), (8, pt a6 0), (9, pt a5 0), (40, pt a1 0)] (bm 5 2) (by kernel_rfl) (by kernel_rfl) ?_
   refine ED.Y hN hF hC 2 3 (bm 5 6) (by kernel_rfl) (by kernel_rfl) rfl (fun _ _ _ hS => YO.loadBox hS 2 rfl 3 0 1 (ia 8) 41 (by kernel_rfl) (by kernel_rfl) (by kernel_rfl) (by kernel_rfl)) ?_
   have hq := task_two.calls u4 hS
   refine ED.one 0 2 (bm 5 7) (by kernel_rfl) (by kernel_rfl) (by kernel_rfl) (EO.callD 49 [] _ 39 (by kernel_rfl) (by kernel_rfl) (by kernel_rfl) hq ?_)
   rintro v w ⟨rfl, hS⟩
   have hC := hC.again ⟨_, _, hS⟩
   refine ⟨hC, ?_⟩
   refine ED.quick hN hF hC [3, 4] [2, 4, 5, 6, 8, 9, 11] 0 [(2, pt a2 0), (4, pt a3 0), (5, pt a4 0), (6, pt a1 0), (8, pt a6 0), (9, pt a5 0), (11, .func (.func 81) #[] #[])] (bm 5 31) (by kernel_rfl) (by kernel_rfl) ?_
   refine ED.done (by kernel_rfl) ?_
   refine EQ.code ?_
   refine EW.sq (by kernel_rfl) ?_
   refine EW.rg (by kernel_rfl) ?_
   refine EL.quick 2 [2, 4, 5, 6, 8, 9, 11, 44] [(2, pt a2 0), (4, pt a3 0), (5, pt a4 0), (6, pt a1 0), (8, pt a6 0), (9, pt a5 0), (11, .func (.func 81) #[] #[]), (44, .bool (true))] (by kernel_rfl) ?_
   refine EL.done (by kernel_rfl) ?_
   refine EQ.code ?_
   refine EW.cdT (by kernel_rfl) (by kernel_rfl) ?_
   refine EW.sq (by kernel_rfl) ?_
   obtain ⟨n0, u5, H⟩ := b1_out H
   obtain ⟨n1, u6, H⟩ := b1_out H
   obtain ⟨i2, u7, H⟩ := b1_out H
   obtain ⟨g6, o7, H⟩ := lt_out H
   obtain ⟨c3, u8, H⟩ := b1_out H
   have hS := hS.drew
   refine EW.dr (B := B) [Ass.box 63 a5 (encS63 {zS63 with f0 := 1}), Ass.box 91 a6 (cellsS91 (⟨a42, a0⟩ : S91) (A43, C44)), Ass.box 32 a1 [ia 8, ib a0], Ass.box 58 a2 (cellsS58 a42 (A43, C44))] [Ro.sl (Kd.int .i32) A43 C44 a42.f3, Ro.sl (Kd.slice kS32) A46 C47 l45] (by kernel_rfl) (by kernel_rfl) ?_
   have hN : Region.noSelect Cd28.r.r.r.r.r.l.r.r.l.l.ops = true := (by kernel_rfl)
   have hF : freeAll Cd28.r.r.r.r.r.l.r.r.l.l.ops = true := (by kernel_rfl)
   have hC : Core B [Ass.box 63 a5 (encS63 {zS63 with f0 := 1}), Ass.box 91 a6 (cellsS91 (⟨a42, a0⟩ : S91) (A43, C44)), Ass.box 32 a1 [ia 8, ib a0], Ass.box 58 a2 (cellsS58 a42 (A43, C44))] [Ro.sl (Kd.int .i32) A43 C44 a42.f3, Ro.sl (Kd.slice kS32) A46 C47 l45] _ := ⟨_, _, hS.re [5, 3, 3, 3] [] rfl sub_self⟩
   refine ED.quick hN hF hC [1] [2, 4, 5, 8, 9, 46] 11 [(2, pt a2 0), (4, pt a3 0), (5, pt a4 0), (8, pt a6 0), (9, pt a5 0), (46, .func (.func 81) #[] #[])] (bm 12 2) (by kernel_rfl) (by kernel_rfl) ?_
   refine ED.Y hN hF hC 0 10 (bm 12 3) (by kernel_rfl) (by kernel_rfl) rfl (fun _ _ _ hS => YO.loadBox hS 3 rfl 58 0 12 (ag (cellsS58 a42 (A43, C44))) 45 (by kernel_rfl) (by kernel_rfl) (by kernel_rfl) (by kernel_rfl)) ?_
   refine ED.Y hN hF hC 2 9 (bm 12 7) (by kernel_rfl) (by kernel_rfl) rfl (fun _ _ _ hS => YO.loadBox hS 1 rfl 91 0 13 (ag (cellsS91 (⟨a42, a0⟩ : S91) (A43, C44))) 47 (by kernel_rfl) (by kernel_rfl) (by kernel_rfl) (by kernel_rfl)) ?_
   refine ED.Y hN hF hC 4 8 (bm 12 23) (by kernel_rfl) (by kernel_rfl) rfl (fun _ _ _ hS => YO.loadBox hS 1 rfl 91 0 13 (ag (cellsS91 (⟨a42, a0⟩ : S91) (A43, C44))) 49 (by kernel_rfl) (by kernel_rfl) (by kernel_rfl) (by kernel_rfl)) ?_
   refine ED.Y hN hF hC 9 7 (bm 12 535) (by kernel_rfl) (by kernel_rfl) rfl (fun _ _ _ hS => YO.loadBox hS 0 rfl 63 0 3 (ag (encS63 {zS63 with f0 := 1})) 54 (by kernel_rfl) (by kernel_rfl) (by kernel_rfl) (by kernel_rfl)) ?_
   have hS : St B _ (Ass.box 63 a5 (encS63 {zS63 with f0 := 1}) :: Ass.box 91 a6 (cellsS91 (⟨a42, a0⟩ : S91) (A43, C44)) :: Ass.box 32 a1 [ia 8, ib a0] :: Ass.box 63 a4 (encS63 zS63) :: Ass.box 58 a3 (cellsS58 zS58 (none, 0)) :: Ass.box 58 a2 (cellsS58 a42 (A43, C44)) :: os) (Ro.sl (Kd.int .i32) A43 C44 a42.f3 :: Ro.sl (Kd.slice kS32) A46 C47 l45 :: rs) := hS.re [] [] rfl (sub_cons 0 rfl (sub_tail (sub_self)))
   have hq := task_act_top.calls u5 hS
   refine ED.one 3 6 (bm 12 543) (by kernel_rfl) (by kernel_rfl) (by kernel_rfl) (EO.callD 50 [ag (cellsS91 (⟨a42, a0⟩ : S91) (A43, C44)), ia 1] _ 48 (by kernel_rfl) (by kernel_rfl) (by kernel_rfl) hq ?_)
   rintro v w ⟨rfl, hS⟩
   have hC := hC.again ⟨_, _, hS.re [5, 3, 3, 3] [] rfl sub_self⟩
   refine ⟨hC, ?_⟩
   have hS : St B _ (Ass.box 63 a5 (encS63 {zS63 with f0 := 1}) :: Ass.box 91 a6 (cellsS91 (⟨a42, a0⟩ : S91) (A43, C44)) :: Ass.box 32 a1 [ia 8, ib a0] :: Ass.box 63 a4 (encS63 zS63) :: Ass.box 58 a3 (cellsS58 zS58 (none, 0)) :: Ass.box 58 a2 (cellsS58 a42 (A43, C44)) :: os) (Ro.sl (Kd.int .i32) A43 C44 a42.f3 :: Ro.sl (Kd.slice kS32) A46 C47 l45 :: rs) := hS.re [] [] rfl (sub_cons 0 rfl (sub_tail (sub_self)))
   have hq := task_act_top.calls u6 hS
   refine ED.one 5 5 (bm 12 575) (by kernel_rfl) (by kernel_rfl) (by kernel_rfl) (EO.callD 50 [ag (cellsS91 (⟨a42, a0⟩ : S91) (A43, C44)), ia 0] _ 50 (by kernel_rfl) (by kernel_rfl) (by kernel_rfl) hq ?_)
   rintro v w ⟨rfl, hS⟩
   have hC := hC.again ⟨_, _, hS.re [5, 3, 3, 3] [] rfl sub_self⟩
   refine ⟨hC, ?_⟩
   have hq := word_Less.calls u7 hS
   refine ED.one 6 4 (bm 12 639) (by kernel_rfl) (by kernel_rfl) (by kernel_rfl) (EO.callD 81 [ib n0, ib n1] _ 51 (by kernel_rfl) (by kernel_rfl) (by kernel_rfl) hq ?_)
   rintro v w ⟨rfl, hS⟩
   have hC := hC.again ⟨_, _, hS.re [5, 3, 3, 3] [] rfl sub_self⟩
   refine ⟨hC, ?_⟩
   refine ED.one 7 3 (bm 12 767) (by kernel_rfl) (by kernel_rfl) (by kernel_rfl) (EO.lit hS (Kd.int .i32) 21 54 1 #[(0, ib i2)] [ib i2] g6 52 (by kernel_rfl) (by kernel_rfl) (by kernel_rfl) (fun _ => (by kernel_rfl)) (by rw [o7]; rfl) (by kernel_rfl) (fun w G hr => (by rw [o7]; exact ⟨[ib i2], [], rfl, rfl, rfl⟩)) ?_)
   intro o1 w hS
   have hC := hC.again ⟨_, _, hS.re [6, 4, 4, 4] [] rfl sub_self⟩
   refine ⟨hC, ?_⟩
   have hS := St.fr hS 0 rfl
   have hS : St B _ (Ass.box 63 a5 (encS63 {zS63 with f0 := 1}) :: Ass.box 91 a6 (cellsS91 (⟨a42, a0⟩ : S91) (A43, C44)) :: Ass.box 32 a1 [ia 8, ib a0] :: Ass.box 63 a4 (encS63 zS63) :: Ass.box 58 a3 (cellsS58 zS58 (none, 0)) :: Ass.box 58 a2 (cellsS58 a42 (A43, C44)) :: os) (Ro.sl (Kd.int .i32) A43 C44 a42.f3 :: Ro.sl (Kd.int .i32) (some ⟨o1, 0, none⟩) 1 g6 :: Ro.sl (Kd.slice kS32) A46 C47 l45 :: rs) := hS.re [] [] rfl (sub_cons 1 rfl (sub_cons 0 rfl (sub_tail (sub_tail (sub_self)))))
   have hq := task_Drop.calls u8 hS
   refine ED.one 8 2 (bm 12 1023) (by kernel_rfl) (by kernel_rfl) (by kernel_rfl) (EO.callD 31 [ag (cellsS58 a42 (A43, C44)), ia 2, sv (some ⟨o1, 0, none⟩) 1 g6] _ 53 (by kernel_rfl) (by kernel_rfl) (by kernel_rfl) hq ?_)
   rintro v w ⟨d8, f4, rfl, hS⟩
   have hC := hC.again ⟨_, _, hS.re [5, 3, 3, 3] [] rfl (sub_cons 1 rfl (sub_cons 3 rfl sub_self))⟩
   refine ⟨hC, ?_⟩
   refine ED.one 10 1 (bm 12 2047) (by kernel_rfl) (by kernel_rfl) (by kernel_rfl) (EO.storeBox (os' := Ass.box 63 a5 (encS63 {zS63 with f0 := 1}) :: Ass.box 91 a6 (cellsS91 (⟨a42, a0⟩ : S91) (A43, C44)) :: Ass.box 32 a1 [ia 8, ib a0] :: Ass.box 63 a4 (encS63 zS63) :: Ass.box 58 a3 (cellsS58 c3 (d8, f4)) :: Ass.box 58 a2 (cellsS58 a42 (A43, C44)) :: os) hS 4 rfl 58 0 (ag (cellsS58 c3 (d8, f4))) (cellsS58 c3 (d8, f4)) (by kernel_rfl) (by kernel_rfl) (by kernel_rfl) (by kernel_rfl) (by kernel_rfl) (by kernel_rfl) rfl rfl ?_)
   intro w hS
   have hC := hC.again ⟨_, _, hS.re [5, 3, 3, 3] [] rfl (sub_cons 1 rfl (sub_cons 3 rfl sub_self))⟩
   refine ⟨hC, ?_⟩
   refine ED.one 11 0 (bm 12 4095) (by kernel_rfl) (by kernel_rfl) (by kernel_rfl) (EO.storeBox (os' := Ass.box 63 a5 (encS63 {zS63 with f0 := 1}) :: Ass.box 91 a6 (cellsS91 (⟨a42, a0⟩ : S91) (A43, C44)) :: Ass.box 32 a1 [ia 8, ib a0] :: Ass.box 63 a4 (encS63 {zS63 with f0 := 1}) :: Ass.box 58 a3 (cellsS58 c3 (d8, f4)) :: Ass.box 58 a2 (cellsS58 a42 (A43, C44)) :: os) hS 3 rfl 63 0 (ag (encS63 {zS63 with f0 := 1})) (encS63 {zS63 with f0 := 1}) (by kernel_rfl) (by kernel_rfl) (by kernel_rfl) (by kernel_rfl) (by kernel_rfl) (by kernel_rfl) rfl rfl ?_)
   intro w hS
   have hC := hC.again ⟨_, _, hS.re [5, 3, 3, 3] [] rfl (sub_cons 1 rfl (sub_cons 3 rfl sub_self))⟩
   refine ⟨hC, ?_⟩
   refine ED.done (by kernel_rfl) ?_
   refine EQ.code ?_
   refine EW.ret (by kernel_rfl) ?_
   refine EQ.ret ?_
   simp only [cellsS58, cellsS91, encS63, Option.some.injEq, Prod.mk.injEq] at H
   obtain ⟨rfl, rfl⟩ := H
   exact EQ.leave2 hS (.cell 4 58) (.cell 5 63) (ag (cellsS58 c3 (d8, f4))) (ag (encS63 {zS63 with f0 := 1})) (by kernel_rfl) ⟨4, 58, a3, (cellsS58 c3 (d8, f4)), 0, 12, rfl, (by kernel_rfl), (by kernel_rfl)⟩ ⟨3, 63, a4, (encS63 {zS63 with f0 := 1}), 0, 3, rfl, (by kernel_rfl), (by kernel_rfl)⟩ ⟨_, rfl, d8, f4, rfl, (hS.re [] [0, 0, 0, 0, 0, 0] rfl (sub_cons 0 rfl (sub_cons 1 rfl (sub_cons 3 rfl (sub_tail (sub_tail (sub_tail (sub_tail (sub_self)))))))))⟩
  rw [if_neg j6] at H
  by_cases j7 : a7 = 9
  ·rw [if_pos j7] at H
   refine EW.keep [2, 4, 5, 6, 8, 9] [(2, pt a2 0), (4, pt a3 0), (5, pt a4 0), (6, pt a1 0), (8, pt a6 0), (9, pt a5 0)] (by kernel_rfl) ?_
   have hS := St.as (os' := Ass.box 63 a5 (encS63 {zS63 with f0 := 1}) :: Ass.box 91 a6 (cellsS91 (⟨a42, a0⟩ : S91) (A43, C44)) :: Ass.box 32 a1 [ia 9, ib a0] :: Ass.box 63 a4 (encS63 zS63) :: Ass.box 58 a3 (cellsS58 zS58 (none, 0)) :: Ass.box 58 a2 (cellsS58 a42 (A43, C44)) :: os) hS (by simp only [cellsS58, cellsS91, encS63, j7])
   obtain ⟨_, u9, H⟩ := b1_out H
   have hS := hS.drew
   refine EW.dr (B := B) [Ass.box 63 a5 (encS63 {zS63 with f0 := 1}), Ass.box 91 a6 (cellsS91 (⟨a42, a0⟩ : S91) (A43, C44)), Ass.box 32 a1 [ia 9, ib a0], Ass.box 63 a4 (encS63 zS63), Ass.box 58 a3 (cellsS58 zS58 (none, 0)), Ass.box 58 a2 (cellsS58 a42 (A43, C44))] [Ro.sl (Kd.int .i32) A43 C44 a42.f3, Ro.sl (Kd.slice kS32) A46 C47 l45] (by kernel_rfl) (by kernel_rfl) ?_
   have hN : Region.noSelect Cd28.r.r.r.r.r.l.l.ops = true := (by kernel_rfl)
   have hF : freeAll Cd28.r.r.r.r.r.l.l.ops = true := (by kernel_rfl)
   have hC : Core B [Ass.box 63 a5 (encS63 {zS63 with f0 := 1}), Ass.box 91 a6 (cellsS91 (⟨a42, a0⟩ : S91) (A43, C44)), Ass.box 32 a1 [ia 9, ib a0], Ass.box 63 a4 (encS63 zS63), Ass.box 58 a3 (cellsS58 zS58 (none, 0)), Ass.box 58 a2 (cellsS58 a42 (A43, C44))] [Ro.sl (Kd.int .i32) A43 C44 a42.f3, Ro.sl (Kd.slice kS32) A46 C47 l45] _ := ⟨_, _, hS⟩
   refine ED.quick hN hF hC [1] [2, 4, 5, 6, 8, 9, 40] 4 [(2, pt a2 0), (4, pt a3 0), (5, pt a4 0), (6, pt a1 0), (8, pt a6 0), (9, pt a5 0), (40, pt a1 0)] (bm 5 2) (by kernel_rfl) (by kernel_rfl) ?_
   refine ED.Y hN hF hC 2 3 (bm 5 6) (by kernel_rfl) (by kernel_rfl) rfl (fun _ _ _ hS => YO.loadBox hS 2 rfl 3 0 1 (ia 9) 41 (by kernel_rfl) (by kernel_rfl) (by kernel_rfl) (by kernel_rfl)) ?_
   have hq := task_two.calls u9 hS
   refine ED.one 0 2 (bm 5 7) (by kernel_rfl) (by kernel_rfl) (by kernel_rfl) (EO.callD 49 [] _ 39 (by kernel_rfl) (by kernel_rfl) (by kernel_rfl) hq ?_)
   rintro v w ⟨rfl, hS⟩
   have hC := hC.again ⟨_, _, hS⟩
   refine ⟨hC, ?_⟩
   refine ED.quick hN hF hC [3, 4] [2, 4, 5, 6, 8, 9, 11] 0 [(2, pt a2 0), (4, pt a3 0), (5, pt a4 0), (6, pt a1 0), (8, pt a6 0), (9, pt a5 0), (11, .func (.func 82) #[] #[])] (bm 5 31) (by kernel_rfl) (by kernel_rfl) ?_
   refine ED.done (by kernel_rfl) ?_
   refine EQ.code ?_
   refine EW.sq (by kernel_rfl) ?_
   refine EW.rg (by kernel_rfl) ?_
   refine EL.quick 2 [2, 4, 5, 6, 8, 9, 11, 44] [(2, pt a2 0), (4, pt a3 0), (5, pt a4 0), (6, pt a1 0), (8, pt a6 0), (9, pt a5 0), (11, .func (.func 82) #[] #[]), (44, .bool (true))] (by kernel_rfl) ?_
   refine EL.done (by kernel_rfl) ?_
   refine EQ.code ?_
   refine EW.cdT (by kernel_rfl) (by kernel_rfl) ?_
   refine EW.sq (by kernel_rfl) ?_
   obtain ⟨n2, v0, H⟩ := b1_out H
   obtain ⟨n3, v1, H⟩ := b1_out H
   obtain ⟨i3, v2, H⟩ := b1_out H
   obtain ⟨g7, o8, H⟩ := lt_out H
   obtain ⟨c4, v3, H⟩ := b1_out H
   have hS := hS.drew
   refine EW.dr (B := B) [Ass.box 63 a5 (encS63 {zS63 with f0 := 1}), Ass.box 91 a6 (cellsS91 (⟨a42, a0⟩ : S91) (A43, C44)), Ass.box 32 a1 [ia 9, ib a0], Ass.box 58 a2 (cellsS58 a42 (A43, C44))] [Ro.sl (Kd.int .i32) A43 C44 a42.f3, Ro.sl (Kd.slice kS32) A46 C47 l45] (by kernel_rfl) (by kernel_rfl) ?_
   have hN : Region.noSelect Cd28.r.r.r.r.r.l.r.r.l.l.ops = true := (by kernel_rfl)
   have hF : freeAll Cd28.r.r.r.r.r.l.r.r.l.l.ops = true := (by kernel_rfl)
   have hC : Core B [Ass.box 63 a5 (encS63 {zS63 with f0 := 1}), Ass.box 91 a6 (cellsS91 (⟨a42, a0⟩ : S91) (A43, C44)), Ass.box 32 a1 [ia 9, ib a0], Ass.box 58 a2 (cellsS58 a42 (A43, C44))] [Ro.sl (Kd.int .i32) A43 C44 a42.f3, Ro.sl (Kd.slice kS32) A46 C47 l45] _ := ⟨_, _, hS.re [5, 3, 3, 3] [] rfl sub_self⟩
   refine ED.quick hN hF hC [1] [2, 4, 5, 8, 9, 46] 11 [(2, pt a2 0), (4, pt a3 0), (5, pt a4 0), (8, pt a6 0), (9, pt a5 0), (46, .func (.func 82) #[] #[])] (bm 12 2) (by kernel_rfl) (by kernel_rfl) ?_
   refine ED.Y hN hF hC 0 10 (bm 12 3) (by kernel_rfl) (by kernel_rfl) rfl (fun _ _ _ hS => YO.loadBox hS 3 rfl 58 0 12 (ag (cellsS58 a42 (A43, C44))) 45 (by kernel_rfl) (by kernel_rfl) (by kernel_rfl) (by kernel_rfl)) ?_
   refine ED.Y hN hF hC 2 9 (bm 12 7) (by kernel_rfl) (by kernel_rfl) rfl (fun _ _ _ hS => YO.loadBox hS 1 rfl 91 0 13 (ag (cellsS91 (⟨a42, a0⟩ : S91) (A43, C44))) 47 (by kernel_rfl) (by kernel_rfl) (by kernel_rfl) (by kernel_rfl)) ?_
   refine ED.Y hN hF hC 4 8 (bm 12 23) (by kernel_rfl) (by kernel_rfl) rfl (fun _ _ _ hS => YO.loadBox hS 1 rfl 91 0 13 (ag (cellsS91 (⟨a42, a0⟩ : S91) (A43, C44))) 49 (by kernel_rfl) (by kernel_rfl) (by kernel_rfl) (by kernel_rfl)) ?_
   refine ED.Y hN hF hC 9 7 (bm 12 535) (by kernel_rfl) (by kernel_rfl) rfl (fun _ _ _ hS => YO.loadBox hS 0 rfl 63 0 3 (ag (encS63 {zS63 with f0 := 1})) 54 (by kernel_rfl) (by kernel_rfl) (by kernel_rfl) (by kernel_rfl)) ?_
   have hS : St B _ (Ass.box 63 a5 (encS63 {zS63 with f0 := 1}) :: Ass.box 91 a6 (cellsS91 (⟨a42, a0⟩ : S91) (A43, C44)) :: Ass.box 32 a1 [ia 9, ib a0] :: Ass.box 63 a4 (encS63 zS63) :: Ass.box 58 a3 (cellsS58 zS58 (none, 0)) :: Ass.box 58 a2 (cellsS58 a42 (A43, C44)) :: os) (Ro.sl (Kd.int .i32) A43 C44 a42.f3 :: Ro.sl (Kd.slice kS32) A46 C47 l45 :: rs) := hS.re [] [] rfl (sub_cons 0 rfl (sub_tail (sub_self)))
   have hq := task_act_top.calls v0 hS
   refine ED.one 3 6 (bm 12 543) (by kernel_rfl) (by kernel_rfl) (by kernel_rfl) (EO.callD 50 [ag (cellsS91 (⟨a42, a0⟩ : S91) (A43, C44)), ia 1] _ 48 (by kernel_rfl) (by kernel_rfl) (by kernel_rfl) hq ?_)
   rintro v w ⟨rfl, hS⟩
   have hC := hC.again ⟨_, _, hS.re [5, 3, 3, 3] [] rfl sub_self⟩
   refine ⟨hC, ?_⟩
   have hS : St B _ (Ass.box 63 a5 (encS63 {zS63 with f0 := 1}) :: Ass.box 91 a6 (cellsS91 (⟨a42, a0⟩ : S91) (A43, C44)) :: Ass.box 32 a1 [ia 9, ib a0] :: Ass.box 63 a4 (encS63 zS63) :: Ass.box 58 a3 (cellsS58 zS58 (none, 0)) :: Ass.box 58 a2 (cellsS58 a42 (A43, C44)) :: os) (Ro.sl (Kd.int .i32) A43 C44 a42.f3 :: Ro.sl (Kd.slice kS32) A46 C47 l45 :: rs) := hS.re [] [] rfl (sub_cons 0 rfl (sub_tail (sub_self)))
   have hq := task_act_top.calls v1 hS
   refine ED.one 5 5 (bm 12 575) (by kernel_rfl) (by kernel_rfl) (by kernel_rfl) (EO.callD 50 [ag (cellsS91 (⟨a42, a0⟩ : S91) (A43, C44)), ia 0] _ 50 (by kernel_rfl) (by kernel_rfl) (by kernel_rfl) hq ?_)
   rintro v w ⟨rfl, hS⟩
   have hC := hC.again ⟨_, _, hS.re [5, 3, 3, 3] [] rfl sub_self⟩
   refine ⟨hC, ?_⟩
   have hq := word_Eq.calls v2 hS
   refine ED.one 6 4 (bm 12 639) (by kernel_rfl) (by kernel_rfl) (by kernel_rfl) (EO.callD 82 [ib n2, ib n3] _ 51 (by kernel_rfl) (by kernel_rfl) (by kernel_rfl) hq ?_)
   rintro v w ⟨rfl, hS⟩
   have hC := hC.again ⟨_, _, hS.re [5, 3, 3, 3] [] rfl sub_self⟩
   refine ⟨hC, ?_⟩
   refine ED.one 7 3 (bm 12 767) (by kernel_rfl) (by kernel_rfl) (by kernel_rfl) (EO.lit hS (Kd.int .i32) 21 54 1 #[(0, ib i3)] [ib i3] g7 52 (by kernel_rfl) (by kernel_rfl) (by kernel_rfl) (fun _ => (by kernel_rfl)) (by rw [o8]; rfl) (by kernel_rfl) (fun w G hr => (by rw [o8]; exact ⟨[ib i3], [], rfl, rfl, rfl⟩)) ?_)
   intro o2 w hS
   have hC := hC.again ⟨_, _, hS.re [6, 4, 4, 4] [] rfl sub_self⟩
   refine ⟨hC, ?_⟩
   have hS := St.fr hS 0 rfl
   have hS : St B _ (Ass.box 63 a5 (encS63 {zS63 with f0 := 1}) :: Ass.box 91 a6 (cellsS91 (⟨a42, a0⟩ : S91) (A43, C44)) :: Ass.box 32 a1 [ia 9, ib a0] :: Ass.box 63 a4 (encS63 zS63) :: Ass.box 58 a3 (cellsS58 zS58 (none, 0)) :: Ass.box 58 a2 (cellsS58 a42 (A43, C44)) :: os) (Ro.sl (Kd.int .i32) A43 C44 a42.f3 :: Ro.sl (Kd.int .i32) (some ⟨o2, 0, none⟩) 1 g7 :: Ro.sl (Kd.slice kS32) A46 C47 l45 :: rs) := hS.re [] [] rfl (sub_cons 1 rfl (sub_cons 0 rfl (sub_tail (sub_tail (sub_self)))))
   have hq := task_Drop.calls v3 hS
   refine ED.one 8 2 (bm 12 1023) (by kernel_rfl) (by kernel_rfl) (by kernel_rfl) (EO.callD 31 [ag (cellsS58 a42 (A43, C44)), ia 2, sv (some ⟨o2, 0, none⟩) 1 g7] _ 53 (by kernel_rfl) (by kernel_rfl) (by kernel_rfl) hq ?_)
   rintro v w ⟨d9, f5, rfl, hS⟩
   have hC := hC.again ⟨_, _, hS.re [5, 3, 3, 3] [] rfl (sub_cons 1 rfl (sub_cons 3 rfl sub_self))⟩
   refine ⟨hC, ?_⟩
   refine ED.one 10 1 (bm 12 2047) (by kernel_rfl) (by kernel_rfl) (by kernel_rfl) (EO.storeBox (os' := Ass.box 63 a5 (encS63 {zS63 with f0 := 1}) :: Ass.box 91 a6 (cellsS91 (⟨a42, a0⟩ : S91) (A43, C44)) :: Ass.box 32 a1 [ia 9, ib a0] :: Ass.box 63 a4 (encS63 zS63) :: Ass.box 58 a3 (cellsS58 c4 (d9, f5)) :: Ass.box 58 a2 (cellsS58 a42 (A43, C44)) :: os) hS 4 rfl 58 0 (ag (cellsS58 c4 (d9, f5))) (cellsS58 c4 (d9, f5)) (by kernel_rfl) (by kernel_rfl) (by kernel_rfl) (by kernel_rfl) (by kernel_rfl) (by kernel_rfl) rfl rfl ?_)
   intro w hS
   have hC := hC.again ⟨_, _, hS.re [5, 3, 3, 3] [] rfl (sub_cons 1 rfl (sub_cons 3 rfl sub_self))⟩
   refine ⟨hC, ?_⟩
   refine ED.one 11 0 (bm 12 4095) (by kernel_rfl) (by kernel_rfl) (by kernel_rfl) (EO.storeBox (os' := Ass.box 63 a5 (encS63 {zS63 with f0 := 1}) :: Ass.box 91 a6 (cellsS91 (⟨a42, a0⟩ : S91) (A43, C44)) :: Ass.box 32 a1 [ia 9, ib a0] :: Ass.box 63 a4 (encS63 {zS63 with f0 := 1}) :: Ass.box 58 a3 (cellsS58 c4 (d9, f5)) :: Ass.box 58 a2 (cellsS58 a42 (A43, C44)) :: os) hS 3 rfl 63 0 (ag (encS63 {zS63 with f0 := 1})) (encS63 {zS63 with f0 := 1}) (by kernel_rfl) (by kernel_rfl) (by kernel_rfl) (by kernel_rfl) (by kernel_rfl) (by kernel_rfl) rfl rfl ?_)
   intro w hS
   have hC := hC.again ⟨_, _, hS.re [5, 3, 3, 3] [] rfl (sub_cons 1 rfl (sub_cons 3 rfl sub_self))⟩
   refine ⟨hC, ?_⟩
   refine ED.done (by kernel_rfl) ?_
   refine EQ.code ?_
   refine EW.ret (by kernel_rfl) ?_
   refine EQ.ret ?_
   simp only [cellsS58, cellsS91, encS63, Option.some.injEq, Prod.mk.injEq] at H
   obtain ⟨rfl, rfl⟩ := H
   exact EQ.leave2 hS (.cell 4 58) (.cell 5 63) (ag (cellsS58 c4 (d9, f5))) (ag (encS63 {zS63 with f0 := 1})) (by kernel_rfl) ⟨4, 58, a3, (cellsS58 c4 (d9, f5)), 0, 12, rfl, (by kernel_rfl), (by kernel_rfl)⟩ ⟨3, 63, a4, (encS63 {zS63 with f0 := 1}), 0, 3, rfl, (by kernel_rfl), (by kernel_rfl)⟩ ⟨_, rfl, d9, f5, rfl, (hS.re [] [0, 0, 0, 0, 0, 0] rfl (sub_cons 0 rfl (sub_cons 1 rfl (sub_cons 3 rfl (sub_tail (sub_tail (sub_tail (sub_tail (sub_self)))))))))⟩
  rw [if_neg j7] at H
  obtain ⟨_, v4, H⟩ := b1_out H
  have hS := hS.drew
  refine EW.dr (B := B) [Ass.box 63 a5 (encS63 {zS63 with f0 := 1}), Ass.box 91 a6 (cellsS91 (⟨a42, a0⟩ : S91) (A43, C44)), Ass.box 32 a1 [ia a7, ib a0], Ass.box 63 a4 (encS63 zS63), Ass.box 58 a3 (cellsS58 zS58 (none, 0)), Ass.box 58 a2 (cellsS58 a42 (A43, C44))] [Ro.sl (Kd.int .i32) A43 C44 a42.f3, Ro.sl (Kd.slice kS32) A46 C47 l45] (by kernel_rfl) (by kernel_rfl) ?_
  have hN : Region.noSelect Cd28.r.r.r.r.r.l.l.ops = true := (by kernel_rfl)
  have hF : freeAll Cd28.r.r.r.r.r.l.l.ops = true := (by kernel_rfl)
  have hC : Core B [Ass.box 63 a5 (encS63 {zS63 with f0 := 1}), Ass.box 91 a6 (cellsS91 (⟨a42, a0⟩ : S91) (A43, C44)), Ass.box 32 a1 [ia a7, ib a0], Ass.box 63 a4 (encS63 zS63), Ass.box 58 a3 (cellsS58 zS58 (none, 0)), Ass.box 58 a2 (cellsS58 a42 (A43, C44))] [Ro.sl (Kd.int .i32) A43 C44 a42.f3, Ro.sl (Kd.slice kS32) A46 C47 l45] _ := ⟨_, _, hS⟩
  refine ED.quick hN hF hC [1] [2, 4, 5, 6, 8, 9, 40] 4 [(2, pt a2 0), (4, pt a3 0), (5, pt a4 0), (6, pt a1 0), (8, pt a6 0), (9, pt a5 0), (40, pt a1 0)] (bm 5 2) (by kernel_rfl) (by kernel_rfl) ?_
  refine ED.Y hN hF hC 2 3 (bm 5 6) (by kernel_rfl) (by kernel_rfl) rfl (fun _ _ _ hS => YO.loadBox hS 2 rfl 3 0 1 (ia a7) 41 (by kernel_rfl) (by kernel_rfl) (by kernel_rfl) (by kernel_rfl)) ?_
  have hq := task_two.calls v4 hS
  refine ED.one 0 2 (bm 5 7) (by kernel_rfl) (by kernel_rfl) (by kernel_rfl) (EO.callD 49 [] _ 39 (by kernel_rfl) (by kernel_rfl) (by kernel_rfl) hq ?_)
  rintro v w ⟨rfl, hS⟩
  have hC := hC.again ⟨_, _, hS⟩
  refine ⟨hC, ?_⟩
  refine ED.Y hN hF hC 3 1 (bm 5 15) (by kernel_rfl) (by kernel_rfl) rfl (fun _ _ _ hS => YO.idxOne 96 27 #[.nilFunc, .nilFunc, .nilFunc, .nilFunc, .func (.func 78) #[] #[], .func (.func 79) #[] #[], .func (.func 80) #[] #[], .nilFunc, .func (.func 81) #[] #[], .func (.func 82) #[] #[], .nilFunc, .nilFunc, .nilFunc, .nilFunc, .nilFunc, .nilFunc, .nilFunc, .nilFunc, .nilFunc, .nilFunc, .nilFunc, .nilFunc, .nilFunc, .nilFunc, .nilFunc, .nilFunc, .nilFunc] .i64 a7 .nilFunc 42 (by kernel_rfl) (by kernel_rfl) (by kernel_rfl) (by kernel_rfl) g1 j2 (nilAt_get (L := [4, 5, 6, 8, 9]) (cs := [.nilFunc, .nilFunc, .nilFunc, .nilFunc, .func (.func 78) #[] #[], .func (.func 79) #[] #[], .func (.func 80) #[] #[], .nilFunc, .func (.func 81) #[] #[], .func (.func 82) #[] #[], .nilFunc, .nilFunc, .nilFunc, .nilFunc, .nilFunc, .nilFunc, .nilFunc, .nilFunc, .nilFunc, .nilFunc, .nilFunc, .nilFunc, .nilFunc, .nilFunc, .nilFunc, .nilFunc, .nilFunc]) (.eq (.eq (.eq (.eq (.mem rfl (.mem rfl (.mem rfl (.eq (.mem rfl (.mem rfl (.eq (.eq (.eq (.eq (.eq (.eq (.eq (.eq (.eq (.eq (.eq (.eq (.eq (.eq (.eq (.eq (.eq (.nil _)))))))))))))))))))))))))))) (by show _ < 27; have ea := g1; have eb := j2; omega) (by simp only [cellsS58, cellsS91, encS63, List.mem_cons, List.mem_nil_iff, or_false, not_or]; have ea := g1; have n_0 := j3; have n_1 := j4; have n_2 := j5; have n_3 := j6; have n_4 := j7; omega))) ?_
  refine ED.quick hN hF hC [4] [2, 4, 5, 6, 8, 9, 11] 0 [(2, pt a2 0), (4, pt a3 0), (5, pt a4 0), (6, pt a1 0), (8, pt a6 0), (9, pt a5 0), (11, .nilFunc)] (bm 5 31) (by kernel_rfl) (by kernel_rfl) ?_
  refine ED.done (by kernel_rfl) ?_
  refine EQ.code ?_
  refine EW.sq (by kernel_rfl) ?_
  refine EW.rg (by kernel_rfl) ?_
  refine EL.quick 2 [2, 4, 5, 6, 8, 9, 11, 44] [(2, pt a2 0), (4, pt a3 0), (5, pt a4 0), (6, pt a1 0), (8, pt a6 0), (9, pt a5 0), (11, .nilFunc), (44, .bool (false))] (by kernel_rfl) ?_
  refine EL.done (by kernel_rfl) ?_
  refine EQ.code ?_
  refine EW.cdF (by kernel_rfl) (by kernel_rfl) ?_
  refine EW.skip (by kernel_rfl) ?_
  refine EQ.code ?_
  refine EW.sq (by kernel_rfl) ?_
  refine EW.sq (by kernel_rfl) ?_
  refine EW.rg (by kernel_rfl) ?_
  refine EL.quick 1 [2, 4, 5, 6, 8, 9, 55] [(2, pt a2 0), (4, pt a3 0), (5, pt a4 0), (6, pt a1 0), (8, pt a6 0), (9, pt a5 0), (55, pt a1 0)] (by kernel_rfl) ?_
  refine EL.of (EO.Y (YO.loadBox hS 2 rfl 3 0 1 (ia a7) 56 (by kernel_rfl) (by kernel_rfl) (by kernel_rfl) (by kernel_rfl)) ?_)
  refine EL.done (by kernel_rfl) ?_
  refine EQ.code ?_
  refine EW.bl 0 (by kernel_rfl) ?_
  refine EW.sq (by kernel_rfl) ?_
  refine EW.rg (by kernel_rfl) ?_
  refine EL.quick 2 [2, 4, 5, 6, 8, 9, 56, 57] [(2, pt a2 0), (4, pt a3 0), (5, pt a4 0), (6, pt a1 0), (8, pt a6 0), (9, pt a5 0), (56, ia a7), (57, .bool (decide (a7 = 7)))] (by kernel_rfl) ?_
  refine EL.done (by kernel_rfl) ?_
  refine EQ.code ?_
  refine EW.cdP (a7 = 7) (by kernel_rfl) (by kernel_rfl) (fun m0 => ?_) (fun m0 => ?_)
  ·rw [if_pos m0] at H
   refine EW.sq (by kernel_rfl) ?_
   obtain ⟨j8, v5, H⟩ := b1_out H
   obtain ⟨n4, v6, H⟩ := b1_out H
   obtain ⟨c5, g2, v7, H⟩ := b2_out H
   have hS := hS.drew
   refine EW.dr (B := B) [Ass.box 63 a5 (encS63 {zS63 with f0 := 1}), Ass.box 91 a6 (cellsS91 (⟨a42, a0⟩ : S91) (A43, C44)), Ass.box 32 a1 [ia a7, ib a0], Ass.box 63 a4 (encS63 zS63), Ass.box 58 a3 (cellsS58 zS58 (none, 0)), Ass.box 58 a2 (cellsS58 a42 (A43, C44))] [Ro.sl (Kd.int .i32) A43 C44 a42.f3, Ro.sl (Kd.slice kS32) A46 C47 l45] (by kernel_rfl) (by kernel_rfl) ?_
   have hN : Region.noSelect Cd28.r.r.r.r.r.r.l.r.l.r.l.l.ops = true := (by kernel_rfl)
   have hF : freeAll Cd28.r.r.r.r.r.r.l.r.l.r.l.l.ops = true := (by kernel_rfl)
   have hC : Core B [Ass.box 63 a5 (encS63 {zS63 with f0 := 1}), Ass.box 91 a6 (cellsS91 (⟨a42, a0⟩ : S91) (A43, C44)), Ass.box 32 a1 [ia a7, ib a0], Ass.box 63 a4 (encS63 zS63), Ass.box 58 a3 (cellsS58 zS58 (none, 0)), Ass.box 58 a2 (cellsS58 a42 (A43, C44))] [Ro.sl (Kd.int .i32) A43 C44 a42.f3, Ro.sl (Kd.slice kS32) A46 C47 l45] _ := ⟨_, _, hS⟩
   refine ED.Y hN hF hC 0 9 (bm 10 1) (by kernel_rfl) (by kernel_rfl) rfl (fun _ _ _ hS => YO.loadBox hS 1 rfl 91 0 13 (ag (cellsS91 (⟨a42, a0⟩ : S91) (A43, C44))) 60 (by kernel_rfl) (by kernel_rfl) (by kernel_rfl) (by kernel_rfl)) ?_
   refine ED.Y hN hF hC 2 8 (bm 10 5) (by kernel_rfl) (by kernel_rfl) rfl (fun _ _ _ hS => YO.loadBox hS 1 rfl 91 0 13 (ag (cellsS91 (⟨a42, a0⟩ : S91) (A43, C44))) 62 (by kernel_rfl) (by kernel_rfl) (by kernel_rfl) (by kernel_rfl)) ?_
   have hS : St B _ (Ass.box 63 a5 (encS63 {zS63 with f0 := 1}) :: Ass.box 91 a6 (cellsS91 (⟨a42, a0⟩ : S91) (A43, C44)) :: Ass.box 32 a1 [ia a7, ib a0] :: Ass.box 63 a4 (encS63 zS63) :: Ass.box 58 a3 (cellsS58 zS58 (none, 0)) :: Ass.box 58 a2 (cellsS58 a42 (A43, C44)) :: os) (Ro.sl (Kd.int .i32) A43 C44 a42.f3 :: Ro.sl (Kd.slice kS32) A46 C47 l45 :: rs) := hS.re [] [] rfl (sub_cons 0 rfl (sub_tail (sub_self)))
   have hq := task_act_top.calls v5 hS
   refine ED.one 1 7 (bm 10 7) (by kernel_rfl) (by kernel_rfl) (by kernel_rfl) (EO.callD 50 [ag (cellsS91 (⟨a42, a0⟩ : S91) (A43, C44)), ia 1] _ 61 (by kernel_rfl) (by kernel_rfl) (by kernel_rfl) hq ?_)
   rintro v w ⟨rfl, hS⟩
   have hC := hC.again ⟨_, _, hS⟩
   refine ⟨hC, ?_⟩
   refine ED.keep [2, 4, 5, 9, 61, 62] [(2, pt a2 0), (4, pt a3 0), (5, pt a4 0), (9, pt a5 0), (61, ib j8), (62, ag (cellsS91 (⟨a42, a0⟩ : S91) (A43, C44)))] (by kernel_rfl) ?_
   have hS : St B _ (Ass.box 63 a5 (encS63 {zS63 with f0 := 1}) :: Ass.box 91 a6 (cellsS91 (⟨a42, a0⟩ : S91) (A43, C44)) :: Ass.box 32 a1 [ia a7, ib a0] :: Ass.box 63 a4 (encS63 zS63) :: Ass.box 58 a3 (cellsS58 zS58 (none, 0)) :: Ass.box 58 a2 (cellsS58 a42 (A43, C44)) :: os) (Ro.sl (Kd.int .i32) A43 C44 a42.f3 :: Ro.sl (Kd.slice kS32) A46 C47 l45 :: rs) := hS.re [] [] rfl (sub_cons 0 rfl (sub_tail (sub_self)))
   have hq := task_act_top.calls v6 hS
   refine ED.one 3 6 (bm 10 15) (by kernel_rfl) (by kernel_rfl) (by kernel_rfl) (EO.callD 50 [ag (cellsS91 (⟨a42, a0⟩ : S91) (A43, C44)), ia 0] _ 63 (by kernel_rfl) (by kernel_rfl) (by kernel_rfl) hq ?_)
   rintro v w ⟨rfl, hS⟩
   have hC := hC.again ⟨_, _, hS⟩
   refine ⟨hC, ?_⟩
   have hq := word_Div.calls v7 hS
   refine ED.one 4 5 (bm 10 31) (by kernel_rfl) (by kernel_rfl) (by kernel_rfl) (EO.callD 51 [ib j8, ib n4] _ 64 (by kernel_rfl) (by kernel_rfl) (by kernel_rfl) hq ?_)
   rintro v w ⟨rfl, hS⟩
   have hC := hC.again ⟨_, _, hS⟩
   refine ⟨hC, ?_⟩
   refine ED.quick hN hF hC [5, 6, 7, 8, 9] [2, 4, 5, 9, 12, 13] 0 [(2, pt a2 0), (4, pt a3 0), (5, pt a4 0), (9, pt a5 0), (12, ib c5), (13, .bool (g2))] (bm 10 1023) (by kernel_rfl) (by kernel_rfl) ?_
   refine ED.done (by kernel_rfl) ?_
   refine EQ.code ?_
   refine EW.sq (by kernel_rfl) ?_
   refine EW.sq (by kernel_rfl) ?_
   refine EW.rg (by kernel_rfl) ?_
   refine EL.quick 2 [2, 4, 5, 9, 12, 68] [(2, pt a2 0), (4, pt a3 0), (5, pt a4 0), (9, pt a5 0), (12, ib c5), (68, .bool (!(g2)))] (by kernel_rfl) ?_
   refine EL.done (by kernel_rfl) ?_
   refine EQ.code ?_
   refine EW.cdQ (b := !(g2)) (g2 = true) (false) (by kernel_rfl) (by kernel_rfl) ⟨fun h => (by rw [h] <;> rfl), fun h => (by rw [Bool.eq_false_iff.2 h] <;> rfl)⟩ (fun m1 => ?_) (fun m1 => ?_)
   ·rw [if_pos m1] at H
    refine EW.skip (by kernel_rfl) ?_
    refine EQ.code ?_
    refine EW.sq (by kernel_rfl) ?_
    obtain ⟨g8, o9, H⟩ := lt_out H
    obtain ⟨c6, v8, H⟩ := b1_out H
    have hS := hS.drew
    refine EW.dr (B := B) [Ass.box 63 a5 (encS63 {zS63 with f0 := 1}), Ass.box 91 a6 (cellsS91 (⟨a42, a0⟩ : S91) (A43, C44)), Ass.box 32 a1 [ia a7, ib a0], Ass.box 58 a2 (cellsS58 a42 (A43, C44))] [Ro.sl (Kd.int .i32) A43 C44 a42.f3, Ro.sl (Kd.slice kS32) A46 C47 l45] (by kernel_rfl) (by kernel_rfl) ?_
    have hN : Region.noSelect Cd28.r.r.r.r.r.r.l.r.l.r.l.r.r.l.ops = true := (by kernel_rfl)
    have hF : freeAll Cd28.r.r.r.r.r.r.l.r.l.r.l.r.r.l.ops = true := (by kernel_rfl)
    have hC : Core B [Ass.box 63 a5 (encS63 {zS63 with f0 := 1}), Ass.box 91 a6 (cellsS91 (⟨a42, a0⟩ : S91) (A43, C44)), Ass.box 32 a1 [ia a7, ib a0], Ass.box 58 a2 (cellsS58 a42 (A43, C44))] [Ro.sl (Kd.int .i32) A43 C44 a42.f3, Ro.sl (Kd.slice kS32) A46 C47 l45] _ := ⟨_, _, hS.re [5, 3, 3, 3] [] rfl sub_self⟩
    refine ED.quick hN hF hC [1] [2, 4, 5, 9, 72] 6 [(2, pt a2 0), (4, pt a3 0), (5, pt a4 0), (9, pt a5 0), (72, ib c5)] (bm 7 2) (by kernel_rfl) (by kernel_rfl) ?_
    refine ED.Y hN hF hC 0 5 (bm 7 3) (by kernel_rfl) (by kernel_rfl) rfl (fun _ _ _ hS => YO.loadBox hS 3 rfl 58 0 12 (ag (cellsS58 a42 (A43, C44))) 71 (by kernel_rfl) (by kernel_rfl) (by kernel_rfl) (by kernel_rfl)) ?_
    refine ED.Y hN hF hC 4 4 (bm 7 19) (by kernel_rfl) (by kernel_rfl) rfl (fun _ _ _ hS => YO.loadBox hS 0 rfl 63 0 3 (ag (encS63 {zS63 with f0 := 1})) 75 (by kernel_rfl) (by kernel_rfl) (by kernel_rfl) (by kernel_rfl)) ?_
    refine ED.one 2 3 (bm 7 23) (by kernel_rfl) (by kernel_rfl) (by kernel_rfl) (EO.lit hS (Kd.int .i32) 21 54 1 #[(0, ib c5)] [ib c5] g8 73 (by kernel_rfl) (by kernel_rfl) (by kernel_rfl) (fun _ => (by kernel_rfl)) (by rw [o9]; rfl) (by kernel_rfl) (fun w G hr => (by rw [o9]; exact ⟨[ib c5], [], rfl, rfl, rfl⟩)) ?_)
    intro o3 w hS
    have hC := hC.again ⟨_, _, hS.re [6, 4, 4, 4] [] rfl sub_self⟩
    refine ⟨hC, ?_⟩
    have hS := St.fr hS 0 rfl
    have hS : St B _ (Ass.box 63 a5 (encS63 {zS63 with f0 := 1}) :: Ass.box 91 a6 (cellsS91 (⟨a42, a0⟩ : S91) (A43, C44)) :: Ass.box 32 a1 [ia a7, ib a0] :: Ass.box 63 a4 (encS63 zS63) :: Ass.box 58 a3 (cellsS58 zS58 (none, 0)) :: Ass.box 58 a2 (cellsS58 a42 (A43, C44)) :: os) (Ro.sl (Kd.int .i32) A43 C44 a42.f3 :: Ro.sl (Kd.int .i32) (some ⟨o3, 0, none⟩) 1 g8 :: Ro.sl (Kd.slice kS32) A46 C47 l45 :: rs) := hS.re [] [] rfl (sub_cons 1 rfl (sub_cons 0 rfl (sub_tail (sub_tail (sub_self)))))
    have hq := task_Drop.calls v8 hS
    refine ED.one 3 2 (bm 7 31) (by kernel_rfl) (by kernel_rfl) (by kernel_rfl) (EO.callD 31 [ag (cellsS58 a42 (A43, C44)), ia 2, sv (some ⟨o3, 0, none⟩) 1 g8] _ 74 (by kernel_rfl) (by kernel_rfl) (by kernel_rfl) hq ?_)
    rintro v w ⟨e0, f6, rfl, hS⟩
    have hC := hC.again ⟨_, _, hS.re [5, 3, 3, 3] [] rfl (sub_cons 1 rfl (sub_cons 3 rfl sub_self))⟩
    refine ⟨hC, ?_⟩
    refine ED.one 5 1 (bm 7 63) (by kernel_rfl) (by kernel_rfl) (by kernel_rfl) (EO.storeBox (os' := Ass.box 63 a5 (encS63 {zS63 with f0 := 1}) :: Ass.box 91 a6 (cellsS91 (⟨a42, a0⟩ : S91) (A43, C44)) :: Ass.box 32 a1 [ia a7, ib a0] :: Ass.box 63 a4 (encS63 zS63) :: Ass.box 58 a3 (cellsS58 c6 (e0, f6)) :: Ass.box 58 a2 (cellsS58 a42 (A43, C44)) :: os) hS 4 rfl 58 0 (ag (cellsS58 c6 (e0, f6))) (cellsS58 c6 (e0, f6)) (by kernel_rfl) (by kernel_rfl) (by kernel_rfl) (by kernel_rfl) (by kernel_rfl) (by kernel_rfl) rfl rfl ?_)
    intro w hS
    have hC := hC.again ⟨_, _, hS.re [5, 3, 3, 3] [] rfl (sub_cons 1 rfl (sub_cons 3 rfl sub_self))⟩
    refine ⟨hC, ?_⟩
    refine ED.one 6 0 (bm 7 127) (by kernel_rfl) (by kernel_rfl) (by kernel_rfl) (EO.storeBox (os' := Ass.box 63 a5 (encS63 {zS63 with f0 := 1}) :: Ass.box 91 a6 (cellsS91 (⟨a42, a0⟩ : S91) (A43, C44)) :: Ass.box 32 a1 [ia a7, ib a0] :: Ass.box 63 a4 (encS63 {zS63 with f0 := 1}) :: Ass.box 58 a3 (cellsS58 c6 (e0, f6)) :: Ass.box 58 a2 (cellsS58 a42 (A43, C44)) :: os) hS 3 rfl 63 0 (ag (encS63 {zS63 with f0 := 1})) (encS63 {zS63 with f0 := 1}) (by kernel_rfl) (by kernel_rfl) (by kernel_rfl) (by kernel_rfl) (by kernel_rfl) (by kernel_rfl) rfl rfl ?_)
    intro w hS
    have hC := hC.again ⟨_, _, hS.re [5, 3, 3, 3] [] rfl (sub_cons 1 rfl (sub_cons 3 rfl sub_self))⟩
    refine ⟨hC, ?_⟩
    refine ED.done (by kernel_rfl) ?_
    refine EQ.code ?_
    refine EW.ret (by kernel_rfl) ?_
    refine EQ.ret ?_
    refine EQ.ret ?_
    simp only [cellsS58, cellsS91, encS63, Option.some.injEq, Prod.mk.injEq] at H
    obtain ⟨rfl, rfl⟩ := H
    exact EQ.leave2 hS (.cell 4 58) (.cell 5 63) (ag (cellsS58 c6 (e0, f6))) (ag (encS63 {zS63 with f0 := 1})) (by kernel_rfl) ⟨4, 58, a3, (cellsS58 c6 (e0, f6)), 0, 12, rfl, (by kernel_rfl), (by kernel_rfl)⟩ ⟨3, 63, a4, (encS63 {zS63 with f0 := 1}), 0, 3, rfl, (by kernel_rfl), (by kernel_rfl)⟩ ⟨_, rfl, e0, f6, rfl, (hS.re [] [0, 0, 0, 0, 0, 0] rfl (sub_cons 0 rfl (sub_cons 1 rfl (sub_cons 3 rfl (sub_tail (sub_tail (sub_tail (sub_tail (sub_self)))))))))⟩
   rw [if_neg m1] at H
   refine EW.sq (by kernel_rfl) ?_
   obtain ⟨f8, v9, H⟩ := b1_out H
   have hS := hS.drew
   refine EW.dr (B := B) [Ass.box 63 a5 (encS63 {zS63 with f0 := 1}), Ass.box 91 a6 (cellsS91 (⟨a42, a0⟩ : S91) (A43, C44)), Ass.box 32 a1 [ia a7, ib a0], Ass.box 58 a2 (cellsS58 a42 (A43, C44))] [Ro.sl (Kd.int .i32) A43 C44 a42.f3, Ro.sl (Kd.slice kS32) A46 C47 l45] (by kernel_rfl) (by kernel_rfl) ?_
   have hN : Region.noSelect Cd28.r.r.r.r.r.r.l.r.l.r.l.r.l.r.l.l.ops = true := (by kernel_rfl)
   have hF : freeAll Cd28.r.r.r.r.r.r.l.r.l.r.l.r.l.r.l.l.ops = true := (by kernel_rfl)
   have hC : Core B [Ass.box 63 a5 (encS63 {zS63 with f0 := 1}), Ass.box 91 a6 (cellsS91 (⟨a42, a0⟩ : S91) (A43, C44)), Ass.box 32 a1 [ia a7, ib a0], Ass.box 58 a2 (cellsS58 a42 (A43, C44))] [Ro.sl (Kd.int .i32) A43 C44 a42.f3, Ro.sl (Kd.slice kS32) A46 C47 l45] _ := ⟨_, _, hS.re [5, 3, 3, 3] [] rfl sub_self⟩
   refine ED.Y hN hF hC 0 3 (bm 4 1) (by kernel_rfl) (by kernel_rfl) rfl (fun _ _ _ hS => YO.loadBox hS 3 rfl 58 0 12 (ag (cellsS58 a42 (A43, C44))) 69 (by kernel_rfl) (by kernel_rfl) (by kernel_rfl) (by kernel_rfl)) ?_
   have hq := task_failed.calls v9 hS
   refine ED.one 1 2 (bm 4 3) (by kernel_rfl) (by kernel_rfl) (by kernel_rfl) (EO.callD 47 [ia 32] _ 70 (by kernel_rfl) (by kernel_rfl) (by kernel_rfl) hq ?_)
   rintro v w ⟨rfl, hS⟩
   have hC := hC.again ⟨_, _, hS.re [5, 3, 3, 3] [] rfl sub_self⟩
   refine ⟨hC, ?_⟩
   refine ED.one 2 1 (bm 4 7) (by kernel_rfl) (by kernel_rfl) (by kernel_rfl) (EO.storeBox (os' := Ass.box 63 a5 (encS63 {zS63 with f0 := 1}) :: Ass.box 91 a6 (cellsS91 (⟨a42, a0⟩ : S91) (A43, C44)) :: Ass.box 32 a1 [ia a7, ib a0] :: Ass.box 63 a4 (encS63 zS63) :: Ass.box 58 a3 (cellsS58 a42 (A43, C44)) :: Ass.box 58 a2 (cellsS58 a42 (A43, C44)) :: os) hS 4 rfl 58 0 (ag (cellsS58 a42 (A43, C44))) (cellsS58 a42 (A43, C44)) (by kernel_rfl) (by kernel_rfl) (by kernel_rfl) (by kernel_rfl) (by kernel_rfl) (by kernel_rfl) rfl rfl ?_)
   intro w hS
   have hC := hC.again ⟨_, _, hS.re [5, 3, 3, 3] [] rfl sub_self⟩
   refine ⟨hC, ?_⟩
   refine ED.one 3 0 (bm 4 15) (by kernel_rfl) (by kernel_rfl) (by kernel_rfl) (EO.storeBox (os' := Ass.box 63 a5 (encS63 {zS63 with f0 := 1}) :: Ass.box 91 a6 (cellsS91 (⟨a42, a0⟩ : S91) (A43, C44)) :: Ass.box 32 a1 [ia a7, ib a0] :: Ass.box 63 a4 (encS63 f8) :: Ass.box 58 a3 (cellsS58 a42 (A43, C44)) :: Ass.box 58 a2 (cellsS58 a42 (A43, C44)) :: os) hS 3 rfl 63 0 (ag (encS63 f8)) (encS63 f8) (by kernel_rfl) (by kernel_rfl) (by kernel_rfl) (by kernel_rfl) (by kernel_rfl) (by kernel_rfl) rfl rfl ?_)
   intro w hS
   have hC := hC.again ⟨_, _, hS.re [5, 3, 3, 3] [] rfl sub_self⟩
   refine ⟨hC, ?_⟩
   refine ED.done (by kernel_rfl) ?_
   refine EQ.code ?_
   refine EW.ret (by kernel_rfl) ?_
   refine EQ.ret ?_
   refine EQ.ret ?_
   refine EQ.ret ?_
   simp only [cellsS58, cellsS91, encS63, Option.some.injEq, Prod.mk.injEq] at H
   obtain ⟨rfl, rfl⟩ := H
   exact EQ.leave2 hS (.cell 4 58) (.cell 5 63) (ag (cellsS58 a42 (A43, C44))) (ag (encS63 f8)) (by kernel_rfl) ⟨4, 58, a3, (cellsS58 a42 (A43, C44)), 0, 12, rfl, (by kernel_rfl), (by kernel_rfl)⟩ ⟨3, 63, a4, (encS63 f8), 0, 3, rfl, (by kernel_rfl), (by kernel_rfl)⟩ ⟨_, rfl, A43, C44, rfl, (hS.re [] [0, 0, 0, 0, 0, 0] rfl (sub_cons 0 rfl (sub_self)))⟩
  rw [if_neg m0] at H
  refine EW.sq (by kernel_rfl) ?_
  refine EW.rg (by kernel_rfl) ?_
  refine EL.quick 2 [2, 4, 5, 6, 8, 56, 76] [(2, pt a2 0), (4, pt a3 0), (5, pt a4 0), (6, pt a1 0), (8, pt a6 0), (56, ia a7), (76, .bool (decide (a7 = 25)))] (by kernel_rfl) ?_
  refine EL.done (by kernel_rfl) ?_
  refine EQ.code ?_
  refine EW.cdP (a7 = 25) (by kernel_rfl) (by kernel_rfl) (fun m2 => ?_) (fun m2 => ?_)
  ·rw [if_pos m2] at H
   refine EW.sq (by kernel_rfl) ?_
   obtain ⟨a8, x0, H⟩ := b1_out H
   have hS := hS.drew
   refine EW.dr (B := B) [Ass.box 63 a5 (encS63 {zS63 with f0 := 1}), Ass.box 91 a6 (cellsS91 (⟨a42, a0⟩ : S91) (A43, C44)), Ass.box 32 a1 [ia a7, ib a0], Ass.box 58 a2 (cellsS58 a42 (A43, C44))] [Ro.sl (Kd.int .i32) A43 C44 a42.f3, Ro.sl (Kd.slice kS32) A46 C47 l45] (by kernel_rfl) (by kernel_rfl) ?_
   have hN : Region.noSelect Cd28.r.r.r.r.r.r.l.r.l.r.r.r.l.l.ops = true := (by kernel_rfl)
   have hF : freeAll Cd28.r.r.r.r.r.r.l.r.l.r.r.r.l.l.ops = true := (by kernel_rfl)
   have hC : Core B [Ass.box 63 a5 (encS63 {zS63 with f0 := 1}), Ass.box 91 a6 (cellsS91 (⟨a42, a0⟩ : S91) (A43, C44)), Ass.box 32 a1 [ia a7, ib a0], Ass.box 58 a2 (cellsS58 a42 (A43, C44))] [Ro.sl (Kd.int .i32) A43 C44 a42.f3, Ro.sl (Kd.slice kS32) A46 C47 l45] _ := ⟨_, _, hS.re [5, 3, 3, 3] [] rfl sub_self⟩
   refine ED.Y hN hF hC 0 5 (bm 6 1) (by kernel_rfl) (by kernel_rfl) rfl (fun _ _ _ hS => YO.loadBox hS 3 rfl 58 0 12 (ag (cellsS58 a42 (A43, C44))) 78 (by kernel_rfl) (by kernel_rfl) (by kernel_rfl) (by kernel_rfl)) ?_
   refine ED.Y hN hF hC 1 4 (bm 6 3) (by kernel_rfl) (by kernel_rfl) rfl (fun _ _ _ hS => YO.loadBox hS 1 rfl 91 0 13 (ag (cellsS91 (⟨a42, a0⟩ : S91) (A43, C44))) 79 (by kernel_rfl) (by kernel_rfl) (by kernel_rfl) (by kernel_rfl)) ?_
   have hS : St B _ (Ass.box 63 a5 (encS63 {zS63 with f0 := 1}) :: Ass.box 91 a6 (cellsS91 (⟨a42, a0⟩ : S91) (A43, C44)) :: Ass.box 32 a1 [ia a7, ib a0] :: Ass.box 63 a4 (encS63 zS63) :: Ass.box 58 a3 (cellsS58 zS58 (none, 0)) :: Ass.box 58 a2 (cellsS58 a42 (A43, C44)) :: os) (Ro.sl (Kd.int .i32) A43 C44 a42.f3 :: Ro.sl (Kd.slice kS32) A46 C47 l45 :: rs) := hS.re [] [] rfl (sub_cons 0 rfl (sub_tail (sub_self)))
   have hq := task_act_top.calls x0 hS
   refine ED.one 2 3 (bm 6 7) (by kernel_rfl) (by kernel_rfl) (by kernel_rfl) (EO.callD 50 [ag (cellsS91 (⟨a42, a0⟩ : S91) (A43, C44)), ia 0] _ 80 (by kernel_rfl) (by kernel_rfl) (by kernel_rfl) hq ?_)
   rintro v w ⟨rfl, hS⟩
   have hC := hC.again ⟨_, _, hS.re [5, 3, 3, 3] [] rfl sub_self⟩
   refine ⟨hC, ?_⟩
   refine ED.keep [4, 5, 78, 80] [(4, pt a3 0), (5, pt a4 0), (78, ag (cellsS58 a42 (A43, C44))), (80, ib a8)] (by kernel_rfl) ?_
   refine ED.quick hN hF hC [3] [4, 5, 78, 81] 2 [(4, pt a3 0), (5, pt a4 0), (78, ag (cellsS58 a42 (A43, C44))), (81, ag [ia 2, ib a8, ia 0])] (bm 6 15) (by kernel_rfl) (by kernel_rfl) ?_
   refine ED.one 4 1 (bm 6 31) (by kernel_rfl) (by kernel_rfl) (by kernel_rfl) (EO.storeBox (os' := Ass.box 63 a5 (encS63 {zS63 with f0 := 1}) :: Ass.box 91 a6 (cellsS91 (⟨a42, a0⟩ : S91) (A43, C44)) :: Ass.box 32 a1 [ia a7, ib a0] :: Ass.box 63 a4 (encS63 zS63) :: Ass.box 58 a3 (cellsS58 a42 (A43, C44)) :: Ass.box 58 a2 (cellsS58 a42 (A43, C44)) :: os) hS 4 rfl 58 0 (ag (cellsS58 a42 (A43, C44))) (cellsS58 a42 (A43, C44)) (by kernel_rfl) (by kernel_rfl) (by kernel_rfl) (by kernel_rfl) (by kernel_rfl) (by kernel_rfl) rfl rfl ?_)
   intro w hS
   have hC := hC.again ⟨_, _, hS.re [5, 3, 3, 3] [] rfl sub_self⟩
   refine ⟨hC, ?_⟩
   refine ED.one 5 0 (bm 6 63) (by kernel_rfl) (by kernel_rfl) (by kernel_rfl) (EO.storeBox (os' := Ass.box 63 a5 (encS63 {zS63 with f0 := 1}) :: Ass.box 91 a6 (cellsS91 (⟨a42, a0⟩ : S91) (A43, C44)) :: Ass.box 32 a1 [ia a7, ib a0] :: Ass.box 63 a4 [ia 2, ib a8, ia 0] :: Ass.box 58 a3 (cellsS58 a42 (A43, C44)) :: Ass.box 58 a2 (cellsS58 a42 (A43, C44)) :: os) hS 3 rfl 63 0 (ag [ia 2, ib a8, ia 0]) [ia 2, ib a8, ia 0] (by kernel_rfl) (by kernel_rfl) (by kernel_rfl) (by kernel_rfl) (by kernel_rfl) (by kernel_rfl) rfl rfl ?_)
   intro w hS
   have hC := hC.again ⟨_, _, hS.re [5, 3, 3, 3] [] rfl sub_self⟩
   refine ⟨hC, ?_⟩
   refine ED.done (by kernel_rfl) ?_
   refine EQ.code ?_
   refine EW.ret (by kernel_rfl) ?_
   refine EQ.ret ?_
   refine EQ.ret ?_
   simp only [cellsS58, cellsS91, encS63, Option.some.injEq, Prod.mk.injEq] at H
   obtain ⟨rfl, rfl⟩ := H
   exact EQ.leave2 hS (.cell 4 58) (.cell 5 63) (ag (cellsS58 a42 (A43, C44))) (ag [ia 2, ib a8, ia 0]) (by kernel_rfl) ⟨4, 58, a3, (cellsS58 a42 (A43, C44)), 0, 12, rfl, (by kernel_rfl), (by kernel_rfl)⟩ ⟨3, 63, a4, [ia 2, ib a8, ia 0], 0, 3, rfl, (by kernel_rfl), (by kernel_rfl)⟩ ⟨_, rfl, A43, C44, rfl, (hS.re [] [0, 0, 0, 0, 0, 0] rfl (sub_cons 0 rfl (sub_self)))⟩
  rw [if_neg m2] at H
  refine EW.sq (by kernel_rfl) ?_
  refine EW.rg (by kernel_rfl) ?_
  refine EL.quick 2 [2, 4, 5, 6, 82] [(2, pt a2 0), (4, pt a3 0), (5, pt a4 0), (6, pt a1 0), (82, .bool (decide (a7 = 26)))] (by kernel_rfl) ?_
  refine EL.done (by kernel_rfl) ?_
  refine EQ.code ?_
  refine EW.cdP (a7 = 26) (by kernel_rfl) (by kernel_rfl) (fun m3 => ?_) (fun m3 => ?_)
  ·rw [if_pos m3] at H
   refine EW.sq (by kernel_rfl) ?_
   obtain ⟨f9, x1, H⟩ := b1_out H
   have hS := hS.drew
   refine EW.dr (B := B) [Ass.box 63 a5 (encS63 {zS63 with f0 := 1}), Ass.box 91 a6 (cellsS91 (⟨a42, a0⟩ : S91) (A43, C44)), Ass.box 32 a1 [ia a7, ib a0], Ass.box 58 a2 (cellsS58 a42 (A43, C44))] [Ro.sl (Kd.int .i32) A43 C44 a42.f3, Ro.sl (Kd.slice kS32) A46 C47 l45] (by kernel_rfl) (by kernel_rfl) ?_
   have hN : Region.noSelect Cd28.r.r.r.r.r.r.l.r.l.r.r.r.r.r.l.l.ops = true := (by kernel_rfl)
   have hF : freeAll Cd28.r.r.r.r.r.r.l.r.l.r.r.r.r.r.l.l.ops = true := (by kernel_rfl)
   have hC : Core B [Ass.box 63 a5 (encS63 {zS63 with f0 := 1}), Ass.box 91 a6 (cellsS91 (⟨a42, a0⟩ : S91) (A43, C44)), Ass.box 32 a1 [ia a7, ib a0], Ass.box 58 a2 (cellsS58 a42 (A43, C44))] [Ro.sl (Kd.int .i32) A43 C44 a42.f3, Ro.sl (Kd.slice kS32) A46 C47 l45] _ := ⟨_, _, hS.re [5, 3, 3, 3] [] rfl sub_self⟩
   refine ED.quick hN hF hC [1] [2, 4, 5, 85] 6 [(2, pt a2 0), (4, pt a3 0), (5, pt a4 0), (85, pt a1 1)] (bm 7 2) (by kernel_rfl) (by kernel_rfl) ?_
   refine ED.Y hN hF hC 0 5 (bm 7 3) (by kernel_rfl) (by kernel_rfl) rfl (fun _ _ _ hS => YO.loadBox hS 3 rfl 58 0 12 (ag (cellsS58 a42 (A43, C44))) 84 (by kernel_rfl) (by kernel_rfl) (by kernel_rfl) (by kernel_rfl)) ?_
   refine ED.Y hN hF hC 2 4 (bm 7 7) (by kernel_rfl) (by kernel_rfl) rfl (fun _ _ _ hS => YO.loadBox hS 2 rfl 21 1 1 (ib a0) 86 (by kernel_rfl) (by kernel_rfl) (by kernel_rfl) (by kernel_rfl)) ?_
   refine ED.quick hN hF hC [3] [4, 5, 84, 87] 3 [(4, pt a3 0), (5, pt a4 0), (84, ag (cellsS58 a42 (A43, C44))), (87, ia (IntKind.i64.wrap a0))] (bm 7 15) (by kernel_rfl) (by kernel_rfl) ?_
   have hq := task_failed.calls x1 hS
   refine ED.one 4 2 (bm 7 31) (by kernel_rfl) (by kernel_rfl) (by kernel_rfl) (EO.callD 47 [ia (IntKind.i64.wrap a0)] _ 88 (by kernel_rfl) (by kernel_rfl) (by kernel_rfl) hq ?_)
   rintro v w ⟨rfl, hS⟩
   have hC := hC.again ⟨_, _, hS.re [5, 3, 3, 3] [] rfl sub_self⟩
   refine ⟨hC, ?_⟩
   refine ED.one 5 1 (bm 7 63) (by kernel_rfl) (by kernel_rfl) (by kernel_rfl) (EO.storeBox (os' := Ass.box 63 a5 (encS63 {zS63 with f0 := 1}) :: Ass.box 91 a6 (cellsS91 (⟨a42, a0⟩ : S91) (A43, C44)) :: Ass.box 32 a1 [ia a7, ib a0] :: Ass.box 63 a4 (encS63 zS63) :: Ass.box 58 a3 (cellsS58 a42 (A43, C44)) :: Ass.box 58 a2 (cellsS58 a42 (A43, C44)) :: os) hS 4 rfl 58 0 (ag (cellsS58 a42 (A43, C44))) (cellsS58 a42 (A43, C44)) (by kernel_rfl) (by kernel_rfl) (by kernel_rfl) (by kernel_rfl) (by kernel_rfl) (by kernel_rfl) rfl rfl ?_)
   intro w hS
   have hC := hC.again ⟨_, _, hS.re [5, 3, 3, 3] [] rfl sub_self⟩
   refine ⟨hC, ?_⟩
   refine ED.one 6 0 (bm 7 127) (by kernel_rfl) (by kernel_rfl) (by kernel_rfl) (EO.storeBox (os' := Ass.box 63 a5 (encS63 {zS63 with f0 := 1}) :: Ass.box 91 a6 (cellsS91 (⟨a42, a0⟩ : S91) (A43, C44)) :: Ass.box 32 a1 [ia a7, ib a0] :: Ass.box 63 a4 (encS63 f9) :: Ass.box 58 a3 (cellsS58 a42 (A43, C44)) :: Ass.box 58 a2 (cellsS58 a42 (A43, C44)) :: os) hS 3 rfl 63 0 (ag (encS63 f9)) (encS63 f9) (by kernel_rfl) (by kernel_rfl) (by kernel_rfl) (by kernel_rfl) (by kernel_rfl) (by kernel_rfl) rfl rfl ?_)
   intro w hS
   have hC := hC.again ⟨_, _, hS.re [5, 3, 3, 3] [] rfl sub_self⟩
   refine ⟨hC, ?_⟩
   refine ED.done (by kernel_rfl) ?_
   refine EQ.code ?_
   refine EW.ret (by kernel_rfl) ?_
   refine EQ.ret ?_
   refine EQ.ret ?_
   simp only [cellsS58, cellsS91, encS63, Option.some.injEq, Prod.mk.injEq] at H
   obtain ⟨rfl, rfl⟩ := H
   exact EQ.leave2 hS (.cell 4 58) (.cell 5 63) (ag (cellsS58 a42 (A43, C44))) (ag (encS63 f9)) (by kernel_rfl) ⟨4, 58, a3, (cellsS58 a42 (A43, C44)), 0, 12, rfl, (by kernel_rfl), (by kernel_rfl)⟩ ⟨3, 63, a4, (encS63 f9), 0, 3, rfl, (by kernel_rfl), (by kernel_rfl)⟩ ⟨_, rfl, A43, C44, rfl, (hS.re [] [0, 0, 0, 0, 0, 0] rfl (sub_cons 0 rfl (sub_self)))⟩
  rw [if_neg m3] at H
  refine EW.skip (by kernel_rfl) ?_
  refine EQ.pop ?_
  refine EQ.code ?_
  refine EW.sq (by kernel_rfl) ?_
  refine EW.rg (by kernel_rfl) ?_
  refine EL.of (EO.Y (YO.loadBox hS 5 rfl 58 0 12 (ag (cellsS58 a42 (A43, C44))) 89 (by kernel_rfl) (by kernel_rfl) (by kernel_rfl) (by kernel_rfl)) ?_)
  refine EL.quick 1 [4, 5, 89, 90] [(4, pt a3 0), (5, pt a4 0), (89, ag (cellsS58 a42 (A43, C44))), (90, ag (encS63 {zS63 with f0 := 4}))] (by kernel_rfl) ?_
  refine EL.of (EO.storeBox (os' := Ass.box 63 a5 (encS63 {zS63 with f0 := 1}) :: Ass.box 91 a6 (cellsS91 (⟨a42, a0⟩ : S91) (A43, C44)) :: Ass.box 32 a1 [ia a7, ib a0] :: Ass.box 63 a4 (encS63 zS63) :: Ass.box 58 a3 (cellsS58 a42 (A43, C44)) :: Ass.box 58 a2 (cellsS58 a42 (A43, C44)) :: os) hS 4 rfl 58 0 (ag (cellsS58 a42 (A43, C44))) (cellsS58 a42 (A43, C44)) (by kernel_rfl) (by kernel_rfl) (by kernel_rfl) (by kernel_rfl) (by kernel_rfl) (by kernel_rfl) rfl rfl ?_)
  intro w hS
  refine EL.of (EO.storeBox (os' := Ass.box 63 a5 (encS63 {zS63 with f0 := 1}) :: Ass.box 91 a6 (cellsS91 (⟨a42, a0⟩ : S91) (A43, C44)) :: Ass.box 32 a1 [ia a7, ib a0] :: Ass.box 63 a4 (encS63 {zS63 with f0 := 4}) :: Ass.box 58 a3 (cellsS58 a42 (A43, C44)) :: Ass.box 58 a2 (cellsS58 a42 (A43, C44)) :: os) hS 3 rfl 63 0 (ag (encS63 {zS63 with f0 := 4})) (encS63 {zS63 with f0 := 4}) (by kernel_rfl) (by kernel_rfl) (by kernel_rfl) (by kernel_rfl) (by kernel_rfl) (by kernel_rfl) rfl rfl ?_)
  intro w hS
  refine EL.done (by kernel_rfl) ?_
  refine EQ.code ?_
  refine EW.ret (by kernel_rfl) ?_
  simp only [cellsS58, cellsS91, encS63, Option.some.injEq, Prod.mk.injEq] at H
  obtain ⟨rfl, rfl⟩ := H
  exact EQ.leave2 hS (.cell 4 58) (.cell 5 63) (ag (cellsS58 a42 (A43, C44))) (ag (encS63 {zS63 with f0 := 4})) (by kernel_rfl) ⟨4, 58, a3, (cellsS58 a42 (A43, C44)), 0, 12, rfl, (by kernel_rfl), (by kernel_rfl)⟩ ⟨3, 63, a4, (encS63 {zS63 with f0 := 4}), 0, 3, rfl, (by kernel_rfl), (by kernel_rfl)⟩ ⟨_, rfl, A43, C44, rfl, (hS.re [] [0, 0, 0, 0, 0, 0] rfl (sub_cons 0 rfl (sub_self)))⟩
 rw [if_neg j9] at H
 refine EW.sq (by kernel_rfl) ?_
 obtain ⟨g0, x2, H⟩ := b1_out H
 have hS := hS.drew
 refine EW.dr (B := B) [Ass.box 32 a1 [ia a7, ib a0], Ass.box 58 a2 (cellsS58 a42 (A43, C44))] [Ro.sl (Kd.int .i32) A43 C44 a42.f3, Ro.sl (Kd.slice kS32) A46 C47 l45] (by kernel_rfl) (by kernel_rfl) ?_
 have hN : Region.noSelect Cd28.r.r.l.r.l.l.ops = true := (by kernel_rfl)
 have hF : freeAll Cd28.r.r.l.r.l.l.ops = true := (by kernel_rfl)
 have hC : Core B [Ass.box 32 a1 [ia a7, ib a0], Ass.box 58 a2 (cellsS58 a42 (A43, C44))] [Ro.sl (Kd.int .i32) A43 C44 a42.f3, Ro.sl (Kd.slice kS32) A46 C47 l45] _ := ⟨_, _, hS.re [3, 1] [] rfl sub_self⟩
 refine ED.Y hN hF hC 0 3 (bm 4 1) (by kernel_rfl) (by kernel_rfl) rfl (fun _ _ _ hS => YO.loadBox hS 1 rfl 58 0 12 (ag (cellsS58 a42 (A43, C44))) 22 (by kernel_rfl) (by kernel_rfl) (by kernel_rfl) (by kernel_rfl)) ?_
 have hq := task_failed.calls x2 hS
 refine ED.one 1 2 (bm 4 3) (by kernel_rfl) (by kernel_rfl) (by kernel_rfl) (EO.callD 47 [ia 24] _ 23 (by kernel_rfl) (by kernel_rfl) (by kernel_rfl) hq ?_)
 rintro v w ⟨rfl, hS⟩
 have hC := hC.again ⟨_, _, hS.re [3, 1] [] rfl sub_self⟩
 refine ⟨hC, ?_⟩
 refine ED.one 2 1 (bm 4 7) (by kernel_rfl) (by kernel_rfl) (by kernel_rfl) (EO.storeBox (os' := Ass.box 32 a1 [ia a7, ib a0] :: Ass.box 63 a4 (encS63 zS63) :: Ass.box 58 a3 (cellsS58 a42 (A43, C44)) :: Ass.box 58 a2 (cellsS58 a42 (A43, C44)) :: os) hS 2 rfl 58 0 (ag (cellsS58 a42 (A43, C44))) (cellsS58 a42 (A43, C44)) (by kernel_rfl) (by kernel_rfl) (by kernel_rfl) (by kernel_rfl) (by kernel_rfl) (by kernel_rfl) rfl rfl ?_)
 intro w hS
 have hC := hC.again ⟨_, _, hS.re [3, 1] [] rfl sub_self⟩
 refine ⟨hC, ?_⟩
 refine ED.one 3 0 (bm 4 15) (by kernel_rfl) (by kernel_rfl) (by kernel_rfl) (EO.storeBox (os' := Ass.box 32 a1 [ia a7, ib a0] :: Ass.box 63 a4 (encS63 g0) :: Ass.box 58 a3 (cellsS58 a42 (A43, C44)) :: Ass.box 58 a2 (cellsS58 a42 (A43, C44)) :: os) hS 1 rfl 63 0 (ag (encS63 g0)) (encS63 g0) (by kernel_rfl) (by kernel_rfl) (by kernel_rfl) (by kernel_rfl) (by kernel_rfl) (by kernel_rfl) rfl rfl ?_)
 intro w hS
 have hC := hC.again ⟨_, _, hS.re [3, 1] [] rfl sub_self⟩
 refine ⟨hC, ?_⟩
 refine ED.done (by kernel_rfl) ?_
 refine EQ.code ?_
 refine EW.ret (by kernel_rfl) ?_
 refine EQ.ret ?_
 simp only [cellsS58, cellsS91, encS63, Option.some.injEq, Prod.mk.injEq] at H
 obtain ⟨rfl, rfl⟩ := H
 exact EQ.leave2 hS (.cell 4 58) (.cell 5 63) (ag (cellsS58 a42 (A43, C44))) (ag (encS63 g0)) (by kernel_rfl) ⟨2, 58, a3, (cellsS58 a42 (A43, C44)), 0, 12, rfl, (by kernel_rfl), (by kernel_rfl)⟩ ⟨1, 63, a4, (encS63 g0), 0, 3, rfl, (by kernel_rfl), (by kernel_rfl)⟩ ⟨_, rfl, A43, C44, rfl, (hS.re [] [0, 0, 0, 0] rfl (sub_cons 0 rfl (sub_self)))⟩

/-! ### confidant/task.Child: function 34 -/
def task_Child.f (K : Nat) (a0 : S58) (a1 : Int) (a2 : Int) (a3 : Int) (a4 : Int) : Option S58 := b1 (task_New.f K a1 (⟨a2, a3, a0.f5, a4, a0.f7, a0.f8⟩ : S71)) fun (a8 : S58) => (some a8)
set_option maxRecDepth 100000 in
theorem task_Child.calls {K : Nat} {a0 : S58} {a1 : Int} {a2 : Int} {a3 : Int} {a4 : Int} {a5 : Option Addr} {a6 : Nat} {b3 : S58} {B w : World} {os : List Ass} {rs : List Ro} (H : task_Child.f K a0 a1 a2 a3 a4 = some b3) (hS : St B w (os) (Ro.sl (Kd.int .i32) a5 a6 a0.f3 :: rs)) :
  Calls Try.prog 34 [ag (cellsS58 a0 (a5, a6)), ib a1, ia a2, ib a3, ia a4].toArray w (fun en w' => ∃ v, en = .returned v ∧ ∃ b4 : Option Addr, ∃ b5 : Nat, v = ag (cellsS58 b3 (b4, b5)) ∧ St B w' (os) (Ro.sl (Kd.int .i32) b4 b5 b3.f3 :: Ro.sl (Kd.int .i32) a5 a6 a0.f3 :: rs)) := by
 unfold task_Child.f at H
 refine calls_of_EW (args := [ag (cellsS58 a0 (a5, a6)), ib a1, ia a2, ib a3, ia a4]) (c := Cd34) 23 Try.func34 (by kernel_rfl) (by kernel_rfl) (by kernel_rfl) ?_
 refine EW.sq (by kernel_rfl) ?_
 refine EW.rg (by kernel_rfl) ?_
 refine EL.of (EO.box hS 58 (ag (cellsS58 a0 (a5, a6))) (cellsS58 a0 (a5, a6)) 5 (by kernel_rfl) (by kernel_rfl) (by kernel_rfl) (by first | rfl | kernel_rfl) ?_)
 intro a7 w hS
 refine EL.of (EO.alloc hS 58 (ag (cellsS58 zS58 (none, 0))) (cellsS58 zS58 (none, 0)) 10 (by kernel_rfl) (by kernel_rfl) (by kernel_rfl) (by kernel_rfl) (by first | rfl | kernel_rfl) ?_)
 intro b2 w hS
 refine EL.done (by kernel_rfl) ?_
 refine EQ.code ?_
 refine EW.sq (by kernel_rfl) ?_
 refine EW.rg (by kernel_rfl) ?_
 refine EL.quick 4 [4, 5, 10, 11, 12, 13, 14] [(4, ia a4), (5, pt a7 0), (10, pt b2 0), (11, ib a1), (12, ia a2), (13, ib a3), (14, pt a7 8)] (by kernel_rfl) ?_
 refine EL.of (EO.Y (YO.loadBox hS 1 rfl 3 8 1 (ia a0.f5) 15 (by kernel_rfl) (by kernel_rfl) (by kernel_rfl) (by kernel_rfl)) ?_)
 refine EL.quick 2 [5, 10, 11, 12, 13, 15, 16, 17] [(5, pt a7 0), (10, pt b2 0), (11, ib a1), (12, ia a2), (13, ib a3), (15, ia a0.f5), (16, ia a4), (17, pt a7 10)] (by kernel_rfl) ?_
 refine EL.of (EO.Y (YO.loadBox hS 1 rfl 56 10 1 (ie a0.f7) 18 (by kernel_rfl) (by kernel_rfl) (by kernel_rfl) (by kernel_rfl)) ?_)
 refine EL.quick 1 [10, 11, 12, 13, 15, 16, 18, 19] [(10, pt b2 0), (11, ib a1), (12, ia a2), (13, ib a3), (15, ia a0.f5), (16, ia a4), (18, ie a0.f7), (19, pt a7 11)] (by kernel_rfl) ?_
 refine EL.of (EO.Y (YO.loadBox hS 1 rfl 3 11 1 (ia a0.f8) 20 (by kernel_rfl) (by kernel_rfl) (by kernel_rfl) (by kernel_rfl)) ?_)
 refine EL.quick 1 [10, 11, 21] [(10, pt b2 0), (11, ib a1), (21, ag [ia a2, ib a3, ia a0.f5, ia a4, ie a0.f7, ia a0.f8])] (by kernel_rfl) ?_
 obtain ⟨a8, b6, H⟩ := b1_out H
 have hq := task_New.calls b6 hS
 refine EL.of (EO.callD 36 [ib a1, ag [ia a2, ib a3, ia a0.f5, ia a4, ie a0.f7, ia a0.f8]] _ 22 (by kernel_rfl) (by kernel_rfl) (by kernel_rfl) hq ?_)
 rintro v w ⟨a9, b0, rfl, hS⟩
 refine EL.of (EO.storeBox (os' := Ass.box 58 b2 (cellsS58 a8 (a9, b0)) :: Ass.box 58 a7 (cellsS58 a0 (a5, a6)) :: os) hS 0 rfl 58 0 (ag (cellsS58 a8 (a9, b0))) (cellsS58 a8 (a9, b0)) (by kernel_rfl) (by kernel_rfl) (by kernel_rfl) (by kernel_rfl) (by kernel_rfl) (by kernel_rfl) rfl rfl ?_)
 intro w hS
 refine EL.done (by kernel_rfl) ?_
 refine EQ.code ?_
 refine EW.ret (by kernel_rfl) ?_
 obtain rfl := Option.some.inj H
 exact EQ.leaveC hS 0 rfl 10 58 0 12 (ag (cellsS58 a8 (a9, b0))) (by kernel_rfl) (by kernel_rfl) (by kernel_rfl) ⟨_, rfl, a9, b0, rfl, (hS.re [] [0, 0] rfl (sub_cons 0 rfl (sub_tail (sub_self))))⟩

/-! ### slices.Equal[[]int32,int32]: function 59 -/
def slices_Equal_int32_int32.l0 (K : Nat) (a0 : List Int) (a1 : List Int) : Nat → Int → Option Bool
 | 0, _ => none
 | n + 1, a2 => if a2 < (a0.length : Int) then (if 0 ≤ a2 then (if a2 < (a1.length : Int) then (if (a0.getD a2.toNat 0) = (a1.getD a2.toNat 0) then (slices_Equal_int32_int32.l0 K a0 a1 n (IntKind.i64.wrap (a2 + 1))) else (some false)) else none) else none) else (some true)
def slices_Equal_int32_int32.f (K : Nat) (a0 : List Int) (a1 : List Int) : Option Bool := if (a0.length : Int) = (a1.length : Int) then (slices_Equal_int32_int32.l0 K a0 a1 K 0) else (some false)
set_option maxRecDepth 100000 in
theorem slices_Equal_int32_int32.calls {K : Nat} {a0 : List Int} {a1 : List Int} {a5 : Option Addr} {a3 : Nat} {a6 : Option Addr} {a4 : Nat} {b4 : Bool} {B w : World} {os : List Ass} {rs : List Ro} (H : slices_Equal_int32_int32.f K a0 a1 = some b4) (hS : St B w (os) (Ro.sl (Kd.int .i32) a5 a3 a0 :: Ro.sl (Kd.int .i32) a6 a4 a1 :: rs)) :
  Calls Try.prog 59 [sv a5 a3 a0, sv a6 a4 a1].toArray w (fun en w' => ∃ v, en = .returned v ∧ v = .bool (b4) ∧ St B w' (os) (Ro.sl (Kd.int .i32) a5 a3 a0 :: Ro.sl (Kd.int .i32) a6 a4 a1 :: rs)) := by
 unfold slices_Equal_int32_int32.f at H
 refine calls_of_EW (args := [sv a5 a3 a0, sv a6 a4 a1]) (c := Cd59) 26 Try.func59 (by kernel_rfl) (by kernel_rfl) (by kernel_rfl) ?_
 refine EW.sq (by kernel_rfl) ?_
 refine EW.rg (by kernel_rfl) ?_
 refine EL.quick 1 [0, 1] [(0, sv a5 a3 a0), (1, sv a6 a4 a1)] (by kernel_rfl) ?_
 refine EL.done (by kernel_rfl) ?_
 refine EQ.code ?_
 refine EW.sq (by kernel_rfl) ?_
 refine EW.sq (by kernel_rfl) ?_
 refine EW.rg (by kernel_rfl) ?_
 refine EL.quick 5 [0, 1, 10] [(0, sv a5 a3 a0), (1, sv a6 a4 a1), (10, .bool (!(decide ((a0.length : Int) = (a1.length : Int)))))] (by kernel_rfl) ?_
 refine EL.done (by kernel_rfl) ?_
 refine EQ.code ?_
 refine EW.cdQ (b := !(decide ((a0.length : Int) = (a1.length : Int)))) ((a0.length : Int) = (a1.length : Int)) (false) (by kernel_rfl) (by kernel_rfl) ⟨fun h => (by rw [decide_eq_true h] <;> rfl), fun h => (by rw [decide_eq_false h] <;> rfl)⟩ (fun b1 => ?_) (fun b1 => ?_)
 ·rw [if_pos b1] at H
  refine EW.skip (by kernel_rfl) ?_
  refine EQ.code ?_
  refine EW.sq (by kernel_rfl) ?_
  refine EW.sq (by kernel_rfl) ?_
  refine EW.rg (by kernel_rfl) ?_
  refine EL.quick 3 [0, 1, 12, 13] [(0, sv a5 a3 a0), (1, sv a6 a4 a1), (12, ia (a0.length : Int)), (13, ia 0)] (by kernel_rfl) ?_
  refine EL.done (by kernel_rfl) ?_
  refine EQ.code ?_
  refine EW.bl 0 (by kernel_rfl) ?_
  refine EW.lp (fun n a w => ∃ a2 : Int, Sat 26 [(0, sv a5 a3 a0), (1, sv a6 a4 a1), (12, ia (a0.length : Int)), (13, ia a2)] a ∧ St B w (os) (Ro.sl (Kd.int .i32) a5 a3 a0 :: Ro.sl (Kd.int .i32) a6 a4 a1 :: rs) ∧ slices_Equal_int32_int32.l0 K a0 a1 n a2 = some b4) K (by kernel_rfl) ?_ (fun n a w hI => ?_)
  ·refine EQ.keep [0, 1, 12, 13] [(0, sv a5 a3 a0), (1, sv a6 a4 a1), (12, ia (a0.length : Int)), (13, ia 0)] (by kernel_rfl) ?_
   exact fun a ha => ⟨0, ha, (hS.re [] [] rfl (sub_cons 0 rfl (sub_cons 1 rfl (sub_tail (sub_tail (sub_self)))))), H⟩
  obtain ⟨a2, ha, hS, H⟩ := hI
  obtain _ | n := n
  ·simp [slices_Equal_int32_int32.l0] at H
  rw [slices_Equal_int32_int32.l0.eq_2] at H
  refine EW.at ?_ a ha
  clear ha a
  refine EW.sq (by kernel_rfl) ?_
  refine EW.rg (by kernel_rfl) ?_
  refine EL.quick 1 [0, 1, 12, 13, 14] [(0, sv a5 a3 a0), (1, sv a6 a4 a1), (12, ia (a0.length : Int)), (13, ia a2), (14, .bool (decide (a2 < (a0.length : Int))))] (by kernel_rfl) ?_
  refine EL.done (by kernel_rfl) ?_
  refine EQ.code ?_
  refine EW.sq (by kernel_rfl) ?_
  refine EW.cdP (a2 < (a0.length : Int)) (by kernel_rfl) (by kernel_rfl) (fun a9 => ?_) (fun a9 => ?_)
  ·rw [if_pos a9] at H
   refine EW.skip (by kernel_rfl) ?_
   refine EQ.code ?_
   refine EW.sq (by kernel_rfl) ?_
   refine EW.bl 1 (by kernel_rfl) ?_
   refine EW.sq (by kernel_rfl) ?_
   refine EW.rg (by kernel_rfl) ?_
   refine EL.quick 2 [0, 1, 5, 12, 13] [(0, sv a5 a3 a0), (1, sv a6 a4 a1), (5, ia a2), (12, ia (a0.length : Int)), (13, ia a2)] (by kernel_rfl) ?_
   refine EL.done (by kernel_rfl) ?_
   refine EQ.code ?_
   refine EW.sq (by kernel_rfl) ?_
   obtain ⟨b0, H⟩ := ite_in H
   obtain ⟨a7, rfl⟩ := St.rd_some hS (Rd.ro 0 rfl) b0 a9
   obtain ⟨b2, H⟩ := ite_in H
   obtain ⟨a8, rfl⟩ := St.rd_some hS (Rd.ro 1 rfl) b0 b2
   have hS := hS.drew
   refine EW.dr (B := B) [] [Ro.sl (Kd.int .i32) (some a7) a3 a0, Ro.sl (Kd.int .i32) (some a8) a4 a1] (by kernel_rfl) (by kernel_rfl) ?_
   have hN : Region.noSelect Cd59.r.r.l.r.l.l.r.r.l.l.r.l.ops = true := (by kernel_rfl)
   have hF : freeAll Cd59.r.r.l.r.l.l.r.r.l.l.r.l.ops = true := (by kernel_rfl)
   have hC : Core B [] [Ro.sl (Kd.int .i32) (some a7) a3 a0, Ro.sl (Kd.int .i32) (some a8) a4 a1] _ := ⟨_, _, hS⟩
   refine ED.quick hN hF hC [0, 1, 4, 5] [0, 1, 12, 13, 16, 17, 20, 21] 5 [(0, sv (some a7) a3 a0), (1, sv (some a8) a4 a1), (12, ia (a0.length : Int)), (13, ia a2), (16, sv (some a7) a3 a0), (17, ia a2), (20, sv (some a8) a4 a1), (21, ia a2)] (bm 9 51) (by kernel_rfl) (by kernel_rfl) ?_
   refine ED.Y hN hF hC 2 4 (bm 9 55) (by kernel_rfl) (by kernel_rfl) rfl (fun _ _ _ hS => YO.idx 54 1 a7 a0.length a3 .i64 a2 18 (by kernel_rfl) (by kernel_rfl) (by kernel_rfl) (by kernel_rfl) b0 a9) ?_
   refine ED.Y hN hF hC 3 3 (bm 9 63) (by kernel_rfl) (by kernel_rfl) rfl (fun _ _ _ hS => YO.loadEl hS (Kd.int .i32) a7 a3 a0 (Rd.ro 0 rfl) 0 (encI .i32) encI_of a2 b0 a9 21 1 0 1 rfl (ib (a0.getD a2.toNat 0)) 19 (by kernel_rfl) (by kernel_rfl) (by kernel_rfl) (by kernel_rfl)) ?_
   refine ED.Y hN hF hC 6 2 (bm 9 127) (by kernel_rfl) (by kernel_rfl) rfl (fun _ _ _ hS => YO.idx 54 1 a8 a1.length a4 .i64 a2 22 (by kernel_rfl) (by kernel_rfl) (by kernel_rfl) (by kernel_rfl) b0 b2) ?_
   refine ED.Y hN hF hC 7 1 (bm 9 255) (by kernel_rfl) (by kernel_rfl) rfl (fun _ _ _ hS => YO.loadEl hS (Kd.int .i32) a8 a4 a1 (Rd.ro 1 rfl) 0 (encI .i32) encI_of a2 b0 b2 21 1 0 1 rfl (ib (a1.getD a2.toNat 0)) 23 (by kernel_rfl) (by kernel_rfl) (by kernel_rfl) (by kernel_rfl)) ?_
   refine ED.quick hN hF hC [8] [0, 1, 12, 13, 24] 0 [(0, sv (some a7) a3 a0), (1, sv (some a8) a4 a1), (12, ia (a0.length : Int)), (13, ia a2), (24, .bool (!(decide ((a0.getD a2.toNat 0) = (a1.getD a2.toNat 0)))))] (bm 9 511) (by kernel_rfl) (by kernel_rfl) ?_
   refine ED.done (by kernel_rfl) ?_
   refine EQ.code ?_
   refine EW.cdQ (b := !(decide ((a0.getD a2.toNat 0) = (a1.getD a2.toNat 0)))) ((a0.getD a2.toNat 0) = (a1.getD a2.toNat 0)) (false) (by kernel_rfl) (by kernel_rfl) ⟨fun h => (by rw [decide_eq_true h] <;> rfl), fun h => (by rw [decide_eq_false h] <;> rfl)⟩ (fun b3 => ?_) (fun b3 => ?_)
   ·rw [if_pos b3] at H
    refine EW.skip (by kernel_rfl) ?_
    refine EQ.pop ?_
    refine EQ.code ?_
    refine EW.rg (by kernel_rfl) ?_
    refine EL.quick 2 [0, 1, 12, 13] [(0, sv (some a7) a3 a0), (1, sv (some a8) a4 a1), (12, ia (a0.length : Int)), (13, ia (IntKind.i64.wrap (a2 + 1)))] (by kernel_rfl) ?_
    refine EL.done (by kernel_rfl) ?_
    refine EQ.to ?_
    refine EQ.keep [0, 1, 12, 13] [(0, sv (some a7) a3 a0), (1, sv (some a8) a4 a1), (12, ia (a0.length : Int)), (13, ia (IntKind.i64.wrap (a2 + 1)))] (by kernel_rfl) ?_
    exact fun a ha => ⟨n, Nat.lt_succ_self n, IntKind.i64.wrap (a2 + 1), ha, (hS.re [] [] rfl (sub_cons 0 rfl (sub_cons 1 rfl (sub_tail (sub_tail (sub_self)))))), H⟩
   rw [if_neg b3] at H
   refine EW.sq (by kernel_rfl) ?_
   refine EW.rg (by kernel_rfl) ?_
   refine EL.quick 1 [4] [(4, .bool (false))] (by kernel_rfl) ?_
   refine EL.done (by kernel_rfl) ?_
   refine EQ.code ?_
   refine EW.ret (by kernel_rfl) ?_
   refine EQ.ret ?_
   refine EQ.ret ?_
   refine EQ.ret ?_
   refine EQ.ret ?_
   refine EQ.ret ?_
   obtain rfl := Option.some.inj H
   exact EQ.leave (.bool (false)) (by kernel_rfl) ⟨_, rfl, rfl, (hS.re [] [] rfl (sub_self))⟩
  rw [if_neg a9] at H
  refine EW.exit (id := 0) (by kernel_rfl) ?_
  refine EQ.exitCode ?_
  refine EQ.exitTo ?_
  refine EQ.exitHere ?_
  refine EQ.code ?_
  refine EW.sq (by kernel_rfl) ?_
  refine EW.rg (by kernel_rfl) ?_
  refine EL.quick 1 [4] [(4, .bool (true))] (by kernel_rfl) ?_
  refine EL.done (by kernel_rfl) ?_
  refine EQ.code ?_
  refine EW.ret (by kernel_rfl) ?_
  obtain rfl := Option.some.inj H
  exact EQ.leave (.bool (true)) (by kernel_rfl) ⟨_, rfl, rfl, (hS.re [] [] rfl (sub_self))⟩
 rw [if_neg b1] at H
 refine EW.sq (by kernel_rfl) ?_
 refine EW.rg (by kernel_rfl) ?_
 refine EL.quick 1 [4] [(4, .bool (false))] (by kernel_rfl) ?_
 refine EL.done (by kernel_rfl) ?_
 refine EQ.code ?_
 refine EW.ret (by kernel_rfl) ?_
 refine EQ.ret ?_
 obtain rfl := Option.some.inj H
 exact EQ.leave (.bool (false)) (by kernel_rfl) ⟨_, rfl, rfl, (hS.re [] [] rfl (sub_self))⟩

/-! ### confidant/task.Same: function 33 -/
def task_Same.f (K : Nat) (a0 : S58) (a1 : S58) : Option Bool := b1 (slices_Equal_int32_int32.f K a0.f3 a1.f3) fun (a8 : Bool) => (if a8 = true then (if a0.f0 = a1.f0 then (if a0.f1 = a1.f1 then (if a0.f2 = a1.f2 then (if ((a0.f4.f0 == a1.f4.f0) && ((a0.f4.f1 == a1.f4.f1) && ((a0.f4.f2 == a1.f4.f2) && ((a0.f4.f3 == a1.f4.f3) && true)))) = true then (if a0.f5 = a1.f5 then (if a0.f6 = a1.f6 then (if a0.f7 = a1.f7 then (some (decide (a0.f8 = a1.f8))) else (some false)) else (some false)) else (some false)) else (some false)) else (some false)) else (some false)) else (some false)) else (some false))
set_option maxRecDepth 100000 in
theorem task_Same.calls {K : Nat} {a0 : S58} {a1 : S58} {a4 : Option Addr} {a5 : Nat} {a6 : Option Addr} {a7 : Nat} {b8 : Bool} {B w : World} {os : List Ass} {rs : List Ro} (H : task_Same.f K a0 a1 = some b8) (hS : St B w (os) (Ro.sl (Kd.int .i32) a4 a5 a0.f3 :: Ro.sl (Kd.int .i32) a6 a7 a1.f3 :: rs)) :
  Calls Try.prog 33 [ag (cellsS58 a0 (a4, a5)), ag (cellsS58 a1 (a6, a7))].toArray w (fun en w' => ∃ v, en = .returned v ∧ v = .bool (b8) ∧ St B w' (os) (Ro.sl (Kd.int .i32) a4 a5 a0.f3 :: Ro.sl (Kd.int .i32) a6 a7 a1.f3 :: rs)) := by
 unfold task_Same.f at H
 refine calls_of_EW (args := [ag (cellsS58 a0 (a4, a5)), ag (cellsS58 a1 (a6, a7))]) (c := Cd33) 66 Try.func33 (by kernel_rfl) (by kernel_rfl) (by kernel_rfl) ?_
 refine EW.sq (by kernel_rfl) ?_
 refine EW.rg (by kernel_rfl) ?_
 refine EL.of (EO.box hS 58 (ag (cellsS58 a0 (a4, a5))) (cellsS58 a0 (a4, a5)) 2 (by kernel_rfl) (by kernel_rfl) (by kernel_rfl) (by first | rfl | kernel_rfl) ?_)
 intro a3 w hS
 refine EL.of (EO.box hS 58 (ag (cellsS58 a1 (a6, a7))) (cellsS58 a1 (a6, a7)) 3 (by kernel_rfl) (by kernel_rfl) (by kernel_rfl) (by first | rfl | kernel_rfl) ?_)
 intro a2 w hS
 refine EL.quick 1 [2, 3] [(2, pt a3 0), (3, pt a2 0)] (by kernel_rfl) ?_
 refine EL.done (by kernel_rfl) ?_
 refine EQ.code ?_
 refine EW.sq (by kernel_rfl) ?_
 refine EW.rg (by kernel_rfl) ?_
 refine EL.quick 1 [2, 3, 5] [(2, pt a3 0), (3, pt a2 0), (5, pt a3 3)] (by kernel_rfl) ?_
 refine EL.of (EO.Y (YO.loadBox hS 1 rfl 54 3 1 (sv a4 a5 a0.f3) 6 (by kernel_rfl) (by kernel_rfl) (by kernel_rfl) (by kernel_rfl)) ?_)
 refine EL.quick 1 [2, 3, 6, 7] [(2, pt a3 0), (3, pt a2 0), (6, sv a4 a5 a0.f3), (7, pt a2 3)] (by kernel_rfl) ?_
 refine EL.of (EO.Y (YO.loadBox hS 0 rfl 54 3 1 (sv a6 a7 a1.f3) 8 (by kernel_rfl) (by kernel_rfl) (by kernel_rfl) (by kernel_rfl)) ?_)
 have hS : St B _ (Ass.box 58 a2 (cellsS58 a1 (a6, a7)) :: Ass.box 58 a3 (cellsS58 a0 (a4, a5)) :: os) (Ro.sl (Kd.int .i32) a4 a5 a0.f3 :: Ro.sl (Kd.int .i32) a6 a7 a1.f3 :: rs) := hS.re [] [] rfl (sub_cons 0 rfl (sub_cons 1 rfl (sub_tail (sub_tail (sub_self)))))
 obtain ⟨a8, b9, H⟩ := b1_out H
 have hq := slices_Equal_int32_int32.calls b9 hS
 refine EL.of (EO.callD 59 [sv a4 a5 a0.f3, sv a6 a7 a1.f3] _ 9 (by kernel_rfl) (by kernel_rfl) (by kernel_rfl) hq ?_)
 rintro v w ⟨rfl, hS⟩
 refine EL.quick 1 [2, 3, 10] [(2, pt a3 0), (3, pt a2 0), (10, .bool (a8))] (by kernel_rfl) ?_
 by_cases a9 : a8 = true
 ·rw [if_pos a9] at H
  refine EL.keep [2, 3, 10] [(2, pt a3 0), (3, pt a2 0), (10, .bool (a8))] (by kernel_rfl) ?_
  refine EL.as' [(2, pt a3 0), (3, pt a2 0), (10, .bool (true))] (by simp only [cellsS58, a9, Bool.not_true, Bool.not_false]) ?_
  refine EL.quick 1 [2, 3, 10, 11] [(2, pt a3 0), (3, pt a2 0), (10, .bool (true)), (11, pt a3 0)] (by kernel_rfl) ?_
  refine EL.of (EO.Y (YO.loadBox hS 1 rfl 21 0 1 (ib a0.f0) 12 (by kernel_rfl) (by kernel_rfl) (by kernel_rfl) (by kernel_rfl)) ?_)
  refine EL.quick 1 [2, 3, 10, 12, 13] [(2, pt a3 0), (3, pt a2 0), (10, .bool (true)), (12, ib a0.f0), (13, pt a2 0)] (by kernel_rfl) ?_
  refine EL.of (EO.Y (YO.loadBox hS 0 rfl 21 0 1 (ib a1.f0) 14 (by kernel_rfl) (by kernel_rfl) (by kernel_rfl) (by kernel_rfl)) ?_)
  refine EL.quick 3 [2, 3, 17] [(2, pt a3 0), (3, pt a2 0), (17, .bool (decide (a0.f0 = a1.f0)))] (by kernel_rfl) ?_
  by_cases b0 : a0.f0 = a1.f0
  ·rw [if_pos b0] at H
   refine EL.keep [2, 3, 17] [(2, pt a3 0), (3, pt a2 0), (17, .bool (decide (a0.f0 = a1.f0)))] (by kernel_rfl) ?_
   refine EL.as' [(2, pt a3 0), (3, pt a2 0), (17, .bool (true))] (by simp only [cellsS58, dec_t b0, Bool.not_true, Bool.not_false]) ?_
   refine EL.quick 1 [2, 3, 17, 18] [(2, pt a3 0), (3, pt a2 0), (17, .bool (true)), (18, pt a3 1)] (by kernel_rfl) ?_
   refine EL.of (EO.Y (YO.loadBox hS 1 rfl 3 1 1 (ia a0.f1) 19 (by kernel_rfl) (by kernel_rfl) (by kernel_rfl) (by kernel_rfl)) ?_)
   refine EL.quick 1 [2, 3, 17, 19, 20] [(2, pt a3 0), (3, pt a2 0), (17, .bool (true)), (19, ia a0.f1), (20, pt a2 1)] (by kernel_rfl) ?_
   refine EL.of (EO.Y (YO.loadBox hS 0 rfl 3 1 1 (ia a1.f1) 21 (by kernel_rfl) (by kernel_rfl) (by kernel_rfl) (by kernel_rfl)) ?_)
   refine EL.quick 3 [2, 3, 24] [(2, pt a3 0), (3, pt a2 0), (24, .bool (decide (a0.f1 = a1.f1)))] (by kernel_rfl) ?_
   by_cases b2 : a0.f1 = a1.f1
   ·rw [if_pos b2] at H
    refine EL.keep [2, 3, 24] [(2, pt a3 0), (3, pt a2 0), (24, .bool (decide (a0.f1 = a1.f1)))] (by kernel_rfl) ?_
    refine EL.as' [(2, pt a3 0), (3, pt a2 0), (24, .bool (true))] (by simp only [cellsS58, dec_t b2, Bool.not_true, Bool.not_false]) ?_
    refine EL.quick 1 [2, 3, 24, 25] [(2, pt a3 0), (3, pt a2 0), (24, .bool (true)), (25, pt a3 2)] (by kernel_rfl) ?_
    refine EL.of (EO.Y (YO.loadBox hS 1 rfl 3 2 1 (ia a0.f2) 26 (by kernel_rfl) (by kernel_rfl) (by kernel_rfl) (by kernel_rfl)) ?_)
    refine EL.quick 1 [2, 3, 24, 26, 27] [(2, pt a3 0), (3, pt a2 0), (24, .bool (true)), (26, ia a0.f2), (27, pt a2 2)] (by kernel_rfl) ?_
    refine EL.of (EO.Y (YO.loadBox hS 0 rfl 3 2 1 (ia a1.f2) 28 (by kernel_rfl) (by kernel_rfl) (by kernel_rfl) (by kernel_rfl)) ?_)
    refine EL.quick 3 [2, 3, 31] [(2, pt a3 0), (3, pt a2 0), (31, .bool (decide (a0.f2 = a1.f2)))] (by kernel_rfl) ?_
    by_cases b3 : a0.f2 = a1.f2
    ·rw [if_pos b3] at H
     refine EL.keep [2, 3, 31] [(2, pt a3 0), (3, pt a2 0), (31, .bool (decide (a0.f2 = a1.f2)))] (by kernel_rfl) ?_
     refine EL.as' [(2, pt a3 0), (3, pt a2 0), (31, .bool (true))] (by simp only [cellsS58, dec_t b3, Bool.not_true, Bool.not_false]) ?_
     refine EL.quick 1 [2, 3, 31, 32] [(2, pt a3 0), (3, pt a2 0), (31, .bool (true)), (32, pt a3 4)] (by kernel_rfl) ?_
     refine EL.of (EO.Y (YO.loadBox hS 1 rfl 55 4 4 (ag [ib a0.f4.f0, ib a0.f4.f1, ib a0.f4.f2, ib a0.f4.f3]) 33 (by kernel_rfl) (by kernel_rfl) (by kernel_rfl) (by kernel_rfl)) ?_)
     refine EL.quick 1 [2, 3, 31, 33, 34] [(2, pt a3 0), (3, pt a2 0), (31, .bool (true)), (33, ag [ib a0.f4.f0, ib a0.f4.f1, ib a0.f4.f2, ib a0.f4.f3]), (34, pt a2 4)] (by kernel_rfl) ?_
     refine EL.of (EO.Y (YO.loadBox hS 0 rfl 55 4 4 (ag [ib a1.f4.f0, ib a1.f4.f1, ib a1.f4.f2, ib a1.f4.f3]) 35 (by kernel_rfl) (by kernel_rfl) (by kernel_rfl) (by kernel_rfl)) ?_)
     refine EL.of (EO.Y (YO.eqAg .eql 55 (.tmp 33) (.tmp 35) #[ib a0.f4.f0, ib a0.f4.f1, ib a0.f4.f2, ib a0.f4.f3] #[ib a1.f4.f0, ib a1.f4.f1, ib a1.f4.f2, ib a1.f4.f3] ((a0.f4.f0 == a1.f4.f0) && ((a0.f4.f1 == a1.f4.f1) && ((a0.f4.f2 == a1.f4.f2) && ((a0.f4.f3 == a1.f4.f3) && true)))) (((a0.f4.f0 == a1.f4.f0) && ((a0.f4.f1 == a1.f4.f1) && ((a0.f4.f2 == a1.f4.f2) && ((a0.f4.f3 == a1.f4.f3) && true))))) 36 (by kernel_rfl) (by kernel_rfl) (by kernel_rfl) (by kernel_rfl) (by kernel_rfl) (.inl ⟨rfl, rfl⟩)) ?_)
     refine EL.quick 2 [2, 3, 38] [(2, pt a3 0), (3, pt a2 0), (38, .bool (((a0.f4.f0 == a1.f4.f0) && ((a0.f4.f1 == a1.f4.f1) && ((a0.f4.f2 == a1.f4.f2) && ((a0.f4.f3 == a1.f4.f3) && true))))))] (by kernel_rfl) ?_
     by_cases b4 : ((a0.f4.f0 == a1.f4.f0) && ((a0.f4.f1 == a1.f4.f1) && ((a0.f4.f2 == a1.f4.f2) && ((a0.f4.f3 == a1.f4.f3) && true)))) = true
     ·rw [if_pos b4] at H
      refine EL.keep [2, 3, 38] [(2, pt a3 0), (3, pt a2 0), (38, .bool (((a0.f4.f0 == a1.f4.f0) && ((a0.f4.f1 == a1.f4.f1) && ((a0.f4.f2 == a1.f4.f2) && ((a0.f4.f3 == a1.f4.f3) && true))))))] (by kernel_rfl) ?_
      refine EL.as' [(2, pt a3 0), (3, pt a2 0), (38, .bool (true))] (by simp only [cellsS58, b4, Bool.not_true, Bool.not_false]) ?_
      refine EL.quick 1 [2, 3, 38, 39] [(2, pt a3 0), (3, pt a2 0), (38, .bool (true)), (39, pt a3 8)] (by kernel_rfl) ?_
      refine EL.of (EO.Y (YO.loadBox hS 1 rfl 3 8 1 (ia a0.f5) 40 (by kernel_rfl) (by kernel_rfl) (by kernel_rfl) (by kernel_rfl)) ?_)
      refine EL.quick 1 [2, 3, 38, 40, 41] [(2, pt a3 0), (3, pt a2 0), (38, .bool (true)), (40, ia a0.f5), (41, pt a2 8)] (by kernel_rfl) ?_
      refine EL.of (EO.Y (YO.loadBox hS 0 rfl 3 8 1 (ia a1.f5) 42 (by kernel_rfl) (by kernel_rfl) (by kernel_rfl) (by kernel_rfl)) ?_)
      refine EL.quick 3 [2, 3, 45] [(2, pt a3 0), (3, pt a2 0), (45, .bool (decide (a0.f5 = a1.f5)))] (by kernel_rfl) ?_
      by_cases b5 : a0.f5 = a1.f5
      ·rw [if_pos b5] at H
       refine EL.keep [2, 3, 45] [(2, pt a3 0), (3, pt a2 0), (45, .bool (decide (a0.f5 = a1.f5)))] (by kernel_rfl) ?_
       refine EL.as' [(2, pt a3 0), (3, pt a2 0), (45, .bool (true))] (by simp only [cellsS58, dec_t b5, Bool.not_true, Bool.not_false]) ?_
       refine EL.quick 1 [2, 3, 45, 46] [(2, pt a3 0), (3, pt a2 0), (45, .bool (true)), (46, pt a3 9)] (by kernel_rfl) ?_
       refine EL.of (EO.Y (YO.loadBox hS 1 rfl 3 9 1 (ia a0.f6) 47 (by kernel_rfl) (by kernel_rfl) (by kernel_rfl) (by kernel_rfl)) ?_)
       refine EL.quick 1 [2, 3, 45, 47, 48] [(2, pt a3 0), (3, pt a2 0), (45, .bool (true)), (47, ia a0.f6), (48, pt a2 9)] (by kernel_rfl) ?_
       refine EL.of (EO.Y (YO.loadBox hS 0 rfl 3 9 1 (ia a1.f6) 49 (by kernel_rfl) (by kernel_rfl) (by kernel_rfl) (by kernel_rfl)) ?_)
       refine EL.quick 3 [2, 3, 52] [(2, pt a3 0), (3, pt a2 0), (52, .bool (decide (a0.f6 = a1.f6)))] (by kernel_rfl) ?_
       by_cases b6 : a0.f6 = a1.f6
       ·rw [if_pos b6] at H
        refine EL.keep [2, 3, 52] [(2, pt a3 0), (3, pt a2 0), (52, .bool (decide (a0.f6 = a1.f6)))] (by kernel_rfl) ?_
        refine EL.as' [(2, pt a3 0), (3, pt a2 0), (52, .bool (true))] (by simp only [cellsS58, dec_t b6, Bool.not_true, Bool.not_false]) ?_
        refine EL.quick 1 [2, 3, 52, 53] [(2, pt a3 0), (3, pt a2 0), (52, .bool (true)), (53, pt a3 10)] (by kernel_rfl) ?_
        refine EL.of (EO.Y (YO.loadBox hS 1 rfl 56 10 1 (ie a0.f7) 54 (by kernel_rfl) (by kernel_rfl) (by kernel_rfl) (by kernel_rfl)) ?_)
        refine EL.quick 1 [2, 3, 52, 54, 55] [(2, pt a3 0), (3, pt a2 0), (52, .bool (true)), (54, ie a0.f7), (55, pt a2 10)] (by kernel_rfl) ?_
        refine EL.of (EO.Y (YO.loadBox hS 0 rfl 56 10 1 (ie a1.f7) 56 (by kernel_rfl) (by kernel_rfl) (by kernel_rfl) (by kernel_rfl)) ?_)
        refine EL.quick 3 [2, 3, 59] [(2, pt a3 0), (3, pt a2 0), (59, .bool (decide (a0.f7 = a1.f7)))] (by kernel_rfl) ?_
        by_cases b7 : a0.f7 = a1.f7
        ·rw [if_pos b7] at H
         refine EL.keep [2, 3, 59] [(2, pt a3 0), (3, pt a2 0), (59, .bool (decide (a0.f7 = a1.f7)))] (by kernel_rfl) ?_
         refine EL.as' [(2, pt a3 0), (3, pt a2 0), (59, .bool (true))] (by simp only [cellsS58, dec_t b7, Bool.not_true, Bool.not_false]) ?_
         refine EL.quick 1 [3, 59, 60] [(3, pt a2 0), (59, .bool (true)), (60, pt a3 11)] (by kernel_rfl) ?_
         refine EL.of (EO.Y (YO.loadBox hS 1 rfl 3 11 1 (ia a0.f8) 61 (by kernel_rfl) (by kernel_rfl) (by kernel_rfl) (by kernel_rfl)) ?_)
         refine EL.quick 1 [59, 61, 62] [(59, .bool (true)), (61, ia a0.f8), (62, pt a2 11)] (by kernel_rfl) ?_
         refine EL.of (EO.Y (YO.loadBox hS 0 rfl 3 11 1 (ia a1.f8) 63 (by kernel_rfl) (by kernel_rfl) (by kernel_rfl) (by kernel_rfl)) ?_)
         refine EL.quick 3 [4] [(4, .bool (decide (a0.f8 = a1.f8)))] (by kernel_rfl) ?_
         refine EL.done (by kernel_rfl) ?_
         refine EQ.code ?_
         refine EW.ret (by kernel_rfl) ?_
         obtain rfl := Option.some.inj H
         exact EQ.leave (.bool (decide (a0.f8 = a1.f8))) (by kernel_rfl) ⟨_, rfl, rfl, (hS.re [] [0, 0] rfl (sub_self))⟩
        rw [if_neg b7] at H
        refine EL.keep [2, 3, 59] [(2, pt a3 0), (3, pt a2 0), (59, .bool (decide (a0.f7 = a1.f7)))] (by kernel_rfl) ?_
        refine EL.as' [(2, pt a3 0), (3, pt a2 0), (59, .bool (false))] (by simp only [cellsS58, dec_f b7, Bool.not_true, Bool.not_false]) ?_
        refine EL.quick 7 [4] [(4, .bool (false))] (by kernel_rfl) ?_
        refine EL.done (by kernel_rfl) ?_
        refine EQ.code ?_
        refine EW.ret (by kernel_rfl) ?_
        obtain rfl := Option.some.inj H
        exact EQ.leave (.bool (false)) (by kernel_rfl) ⟨_, rfl, rfl, (hS.re [] [0, 0] rfl (sub_self))⟩
       rw [if_neg b6] at H
       refine EL.keep [2, 3, 52] [(2, pt a3 0), (3, pt a2 0), (52, .bool (decide (a0.f6 = a1.f6)))] (by kernel_rfl) ?_
       refine EL.as' [(2, pt a3 0), (3, pt a2 0), (52, .bool (false))] (by simp only [cellsS58, dec_f b6, Bool.not_true, Bool.not_false]) ?_
       refine EL.quick 14 [4] [(4, .bool (false))] (by kernel_rfl) ?_
       refine EL.done (by kernel_rfl) ?_
       refine EQ.code ?_
       refine EW.ret (by kernel_rfl) ?_
       obtain rfl := Option.some.inj H
       exact EQ.leave (.bool (false)) (by kernel_rfl) ⟨_, rfl, rfl, (hS.re [] [0, 0] rfl (sub_self))⟩
      rw [if_neg b5] at H
      refine EL.keep [2, 3, 45] [(2, pt a3 0), (3, pt a2 0), (45, .bool (decide (a0.f5 = a1.f5)))] (by kernel_rfl) ?_
      refine EL.as' [(2, pt a3 0), (3, pt a2 0), (45, .bool (false))] (by simp only [cellsS58, dec_f b5, Bool.not_true, Bool.not_false]) ?_
      refine EL.quick 21 [4] [(4, .bool (false))] (by kernel_rfl) ?_
      refine EL.done (by kernel_rfl) ?_
      refine EQ.code ?_
      refine EW.ret (by kernel_rfl) ?_
      obtain rfl := Option.some.inj H
      exact EQ.leave (.bool (false)) (by kernel_rfl) ⟨_, rfl, rfl, (hS.re [] [0, 0] rfl (sub_self))⟩
     rw [if_neg b4] at H
     refine EL.keep [2, 3, 38] [(2, pt a3 0), (3, pt a2 0), (38, .bool (((a0.f4.f0 == a1.f4.f0) && ((a0.f4.f1 == a1.f4.f1) && ((a0.f4.f2 == a1.f4.f2) && ((a0.f4.f3 == a1.f4.f3) && true))))))] (by kernel_rfl) ?_
     refine EL.as' [(2, pt a3 0), (3, pt a2 0), (38, .bool (false))] (by simp only [cellsS58, (Bool.eq_false_iff.2 b4), Bool.not_true, Bool.not_false]) ?_
     refine EL.quick 28 [4] [(4, .bool (false))] (by kernel_rfl) ?_
     refine EL.done (by kernel_rfl) ?_
     refine EQ.code ?_
     refine EW.ret (by kernel_rfl) ?_
     obtain rfl := Option.some.inj H
     exact EQ.leave (.bool (false)) (by kernel_rfl) ⟨_, rfl, rfl, (hS.re [] [0, 0] rfl (sub_self))⟩
    rw [if_neg b3] at H
    refine EL.keep [2, 3, 31] [(2, pt a3 0), (3, pt a2 0), (31, .bool (decide (a0.f2 = a1.f2)))] (by kernel_rfl) ?_
    refine EL.as' [(2, pt a3 0), (3, pt a2 0), (31, .bool (false))] (by simp only [cellsS58, dec_f b3, Bool.not_true, Bool.not_false]) ?_
    refine EL.quick 35 [4] [(4, .bool (false))] (by kernel_rfl) ?_
    refine EL.done (by kernel_rfl) ?_
    refine EQ.code ?_
    refine EW.ret (by kernel_rfl) ?_
    obtain rfl := Option.some.inj H
    exact EQ.leave (.bool (false)) (by kernel_rfl) ⟨_, rfl, rfl, (hS.re [] [0, 0] rfl (sub_self))⟩
   rw [if_neg b2] at H
   refine EL.keep [2, 3, 24] [(2, pt a3 0), (3, pt a2 0), (24, .bool (decide (a0.f1 = a1.f1)))] (by kernel_rfl) ?_
   refine EL.as' [(2, pt a3 0), (3, pt a2 0), (24, .bool (false))] (by simp only [cellsS58, dec_f b2, Bool.not_true, Bool.not_false]) ?_
   refine EL.quick 42 [4] [(4, .bool (false))] (by kernel_rfl) ?_
   refine EL.done (by kernel_rfl) ?_
   refine EQ.code ?_
   refine EW.ret (by kernel_rfl) ?_
   obtain rfl := Option.some.inj H
   exact EQ.leave (.bool (false)) (by kernel_rfl) ⟨_, rfl, rfl, (hS.re [] [0, 0] rfl (sub_self))⟩
  rw [if_neg b0] at H
  refine EL.keep [2, 3, 17] [(2, pt a3 0), (3, pt a2 0), (17, .bool (decide (a0.f0 = a1.f0)))] (by kernel_rfl) ?_
  refine EL.as' [(2, pt a3 0), (3, pt a2 0), (17, .bool (false))] (by simp only [cellsS58, dec_f b0, Bool.not_true, Bool.not_false]) ?_
  refine EL.quick 49 [4] [(4, .bool (false))] (by kernel_rfl) ?_
  refine EL.done (by kernel_rfl) ?_
  refine EQ.code ?_
  refine EW.ret (by kernel_rfl) ?_
  obtain rfl := Option.some.inj H
  exact EQ.leave (.bool (false)) (by kernel_rfl) ⟨_, rfl, rfl, (hS.re [] [0, 0] rfl (sub_self))⟩
 rw [if_neg a9] at H
 refine EL.keep [2, 3, 10] [(2, pt a3 0), (3, pt a2 0), (10, .bool (a8))] (by kernel_rfl) ?_
 refine EL.as' [(2, pt a3 0), (3, pt a2 0), (10, .bool (false))] (by simp only [cellsS58, (Bool.eq_false_iff.2 a9), Bool.not_true, Bool.not_false]) ?_
 refine EL.quick 56 [4] [(4, .bool (false))] (by kernel_rfl) ?_
 refine EL.done (by kernel_rfl) ?_
 refine EQ.code ?_
 refine EW.ret (by kernel_rfl) ?_
 obtain rfl := Option.some.inj H
 exact EQ.leave (.bool (false)) (by kernel_rfl) ⟨_, rfl, rfl, (hS.re [] [0, 0] rfl (sub_self))⟩

end Go.Proofs.Ytlcnkngpankkpaa.G
