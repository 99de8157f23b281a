import Derived.Test.YtjfnejcanlkknaaProg
import Derived.Test.YtjfnejcanlkknaaFwEq
import Derived.Test.YtjfnejcanlkknaaFwOpen
namespace Go.Proofs.Ytjfnejcanlkknaa.G
open Go Go.Fw Go.RowKit Go.Proofs
set_option linter.unusedVariables false
set_option linter.unusedSimpArgs false

structure S34 where
  f0 : Int
  f1 : Int
  f2 : Int
  f3 : Int
deriving DecidableEq
def zS34 : S34 := ⟨0, 0, 0, 0⟩
def kS34 : Kd S34 := Kd.iso (Kd.prod (Kd.int .i32) (Kd.prod (Kd.int .i32) (Kd.prod (Kd.int .i32) (Kd.prod (Kd.int .i32) Kd.unit)))) (fun s => (s.f0, s.f1, s.f2, s.f3, ()))
def encS34 (s : S34) : List Value := [.int .i32 s.f0, .int .i32 s.f1, .int .i32 s.f2, .int .i32 s.f3]
theorem encS34_of (w : World) (G : Bl) (vs : List Value) (x : S34) (h : kS34.rep w G vs x) : vs = encS34 x := by
  obtain ⟨_, _, rfl, h0, ⟨_, _, rfl, h1, ⟨_, _, rfl, h2, ⟨_, _, rfl, h3, hu⟩⟩⟩⟩ := h
  have h0 := encI_of _ _ _ _ h0
  have h1 := encI_of _ _ _ _ h1
  have h2 := encI_of _ _ _ _ h2
  have h3 := encI_of _ _ _ _ h3
  have hu : _ = [] := hu
  subst hu
  subst h0
  subst h1
  subst h2
  subst h3
  rfl

structure S37 where
  f0 : Int
  f1 : Int
  f2 : Int
  f3 : List Int
  f4 : S34
  f5 : Int
  f6 : Int
  f7 : Int
  f8 : Int

def zS37 : S37 := ⟨0, 0, 0, [], zS34, 0, 0, 0, 0⟩
def kS37 : Kd S37 := Kd.iso (Kd.prod (Kd.int .i32) (Kd.prod (Kd.int .i64) (Kd.prod (Kd.int .i64) (Kd.prod (Kd.slice (Kd.int .i32)) (Kd.prod kS34 (Kd.prod (Kd.int .i64) (Kd.prod (Kd.int .i64) (Kd.prod (Kd.int .u32) (Kd.prod (Kd.int .i64) Kd.unit))))))))) (fun s => (s.f0, s.f1, s.f2, s.f3, s.f4, s.f5, s.f6, s.f7, s.f8, ()))
def cellsS37 (x : S37) (b : (Option Addr × Nat)) : List Value := [.int .i32 x.f0, .int .i64 x.f1, .int .i64 x.f2, .slice b.1 x.f3.length b.2, .int .i32 x.f4.f0, .int .i32 x.f4.f1, .int .i32 x.f4.f2, .int .i32 x.f4.f3, .int .i64 x.f5, .int .i64 x.f6, .int .u32 x.f7, .int .i64 x.f8]
def factsS37 (x : S37) (b : (Option Addr × Nat)) : List Ro := [Ro.sl (Kd.int .i32) b.1 b.2 x.f3]
theorem partsS37 (w : World) (G : Bl) (vs : List Value) (x : S37) (h : kS37.rep w G vs x) : ∃ b, vs = cellsS37 x b ∧ ∀ r ∈ factsS37 x b, r.holds w G := by
  obtain ⟨_, _, rfl, h1, ⟨_, _, rfl, h2, ⟨_, _, rfl, h3, ⟨_, _, rfl, h4, ⟨_, _, rfl, h5, ⟨_, _, rfl, h6, ⟨_, _, rfl, h7, ⟨_, _, rfl, h8, ⟨_, _, rfl, h9, hu10⟩⟩⟩⟩⟩⟩⟩⟩⟩ := h
  have hu10 : _ = [] := hu10
  subst hu10
  have h1 := encI_of _ _ _ _ h1
  subst h1
  have h2 := encI_of _ _ _ _ h2
  subst h2
  have h3 := encI_of _ _ _ _ h3
  subst h3
  obtain ⟨A_h4, C_h4, rfl, r_h4⟩ := h4
  have h5 := encS34_of _ _ _ _ h5
  subst h5
  have h6 := encI_of _ _ _ _ h6
  subst h6
  have h7 := encI_of _ _ _ _ h7
  subst h7
  have h8 := encI_of _ _ _ _ h8
  subst h8
  have h9 := encI_of _ _ _ _ h9
  subst h9
  refine ⟨(A_h4, C_h4), rfl, fun r hr => ?_⟩
  simp only [factsS37, List.mem_cons, List.mem_nil_iff, or_false] at hr
  rcases hr with rfl
  · exact ⟨A_h4, C_h4, rfl, r_h4⟩

noncomputable def Cd3 : Code := bodyOf Try.f3

noncomputable def Cd15 : Code := bodyOf Try.f15

noncomputable def Cd16 : Code := bodyOf Try.f16

noncomputable def Cd17 : Code := bodyOf Try.f17

noncomputable def Cd18 : Code := bodyOf Try.f18

noncomputable def Cd19 : Code := bodyOf Try.f19

noncomputable def Cd20 : Code := bodyOf Try.f20

noncomputable def Cd21 : Code := bodyOf Try.f21

noncomputable def Cd22 : Code := bodyOf Try.f22

noncomputable def Cd23 : Code := bodyOf Try.f23

noncomputable def Cd24 : Code := bodyOf Try.f24

noncomputable def Cd25 : Code := bodyOf Try.f25

noncomputable def Cd26 : Code := bodyOf Try.f26

noncomputable def Cd27 : Code := bodyOf Try.f27

noncomputable def Cd28 : Code := bodyOf Try.f28

noncomputable def Cd29 : Code := bodyOf Try.f29

noncomputable def Cd30 : Code := bodyOf Try.f30

noncomputable def Cd58 : Code := bodyOf Try.f58

noncomputable def Cd59 : Code := bodyOf Try.f59

noncomputable def Cd60 : Code := bodyOf Try.f60

noncomputable def Cd61 : Code := bodyOf Try.f61

noncomputable def Cd77 : Code := bodyOf Try.f77

noncomputable def Cd82 : Code := bodyOf Try.f82

/-! ### confidant/ring.New: function 16 -/
def ring_New.f (K : Nat) (a9 : Int) : Option (List S37 × Int × Int) := if 0 ≤ (mn (mx a9 1) 64) then (if (96 : Int) * (mn (mx a9 1) 64) ≤ 140737488355328 then (lt (List.replicate (mn (mx a9 1) 64).toNat zS37 : List S37) fun l24 => (some (l24, 0, 0))) else none) else none
set_option maxRecDepth 100000 in
theorem ring_New.calls {K : Nat} {a9 : Int} {x16 : List S37} {x19 : Int} {x20 : Int} {B w : World} {os : List Ass} {rs : List Ro} (H : ring_New.f K a9 = some (x16, x19, x20)) (hS : St B w (os) (rs)) :
    Calls Try.prog 16 [.int .i64 a9].toArray w (fun en w' => ∃ v, en = .returned v ∧ ∃ g15 : Nat, ∃ A17 : Option Addr, ∃ C18 : Nat, v = .pointer (some ⟨g15, 0, none⟩) ∧ St B w' (Ass.box 90 g15 [.slice A17 x16.length C18, .int .i64 x19, .int .i64 x20] :: Ass.own 37 kS37 A17 C18 x16 :: os) (rs)) := by
  unfold ring_New.f at H
  refine calls_of_EW (args := [.int .i64 a9]) (c := Cd16) 9 Try.func16 (by kernel_rfl) (by kernel_rfl) (by kernel_rfl) ?_
  refine EW.seq (x := Cd16.l) (y := Cd16.r) (by kernel_rfl) ?_
  refine EW.region (id := 0) (ops := Cd16.l.ops) (by kernel_rfl) ?_
  refine EL.quick 1 [0] [(0, .int .i64 a9)] (by kernel_rfl) ?_
  refine EL.done (by kernel_rfl) ?_
  refine EQ.code ?_
  refine EW.seq (x := Cd16.r.l) (y := Cd16.r.r) (by kernel_rfl) ?_
  refine EW.region (id := 1) (ops := Cd16.r.l.ops) (by kernel_rfl) ?_
  refine EL.quick 3 [5] [(5, .int .i64 (mn (mx a9 1) 64))] (by kernel_rfl) ?_
  obtain ⟨h22, H⟩ := ite_in H
  obtain ⟨h23, H⟩ := ite_in H
  obtain ⟨l24, hl24, H⟩ := lt_out H
  refine EL.of (EO.make hS kS37 37 30 96 .i64 .i64 (mn (mx a9 1) 64) zS37 [.int .i32 0, .int .i64 0, .int .i64 0, .slice none ([] : List Int).length 0, .int .i32 0, .int .i32 0, .int .i32 0, .int .i32 0, .int .i64 0, .int .i64 0, .int .u32 0, .int .i64 0] l24 hl24 6 (by kernel_rfl) (by kernel_rfl) (by kernel_rfl) (by kernel_rfl) (by kernel_rfl) h22 h23 (fun w G => ⟨[.int .i32 0], [.int .i64 0, .int .i64 0, .slice none ([] : List Int).length 0, .int .i32 0, .int .i32 0, .int .i32 0, .int .i32 0, .int .i64 0, .int .i64 0, .int .u32 0, .int .i64 0], rfl, rfl, ⟨[.int .i64 0], [.int .i64 0, .slice none ([] : List Int).length 0, .int .i32 0, .int .i32 0, .int .i32 0, .int .i32 0, .int .i64 0, .int .i64 0, .int .u32 0, .int .i64 0], rfl, rfl, ⟨[.int .i64 0], [.slice none ([] : List Int).length 0, .int .i32 0, .int .i32 0, .int .i32 0, .int .i32 0, .int .i64 0, .int .i64 0, .int .u32 0, .int .i64 0], rfl, rfl, ⟨[.slice none ([] : List Int).length 0], [.int .i32 0, .int .i32 0, .int .i32 0, .int .i32 0, .int .i64 0, .int .i64 0, .int .u32 0, .int .i64 0], rfl, ⟨none, 0, rfl, .inl rfl, Nat.le_refl _, Nat.zero_le _, fun _ => rfl⟩, ⟨[.int .i32 0, .int .i32 0, .int .i32 0, .int .i32 0], [.int .i64 0, .int .i64 0, .int .u32 0, .int .i64 0], rfl, ⟨[.int .i32 0], [.int .i32 0, .int .i32 0, .int .i32 0], rfl, rfl, ⟨[.int .i32 0], [.int .i32 0, .int .i32 0], rfl, rfl, ⟨[.int .i32 0], [.int .i32 0], rfl, rfl, ⟨[.int .i32 0], [], rfl, rfl, rfl⟩⟩⟩⟩, ⟨[.int .i64 0], [.int .i64 0, .int .u32 0, .int .i64 0], rfl, rfl, ⟨[.int .i64 0], [.int .u32 0, .int .i64 0], rfl, rfl, ⟨[.int .u32 0], [.int .i64 0], rfl, rfl, ⟨[.int .i64 0], [], rfl, rfl, rfl⟩⟩⟩⟩⟩⟩⟩⟩⟩) ?_)
  intro g21 w hS
  refine EL.quick 1 [7] [(7, .agg #[.slice (some ⟨g21, 0, none⟩) l24.length ((mn (mx a9 1) 64).toNat), .int .i64 0, .int .i64 0])] (by kernel_rfl) ?_
  refine EL.of (EO.box hS 90 (.agg #[.slice (some ⟨g21, 0, none⟩) l24.length ((mn (mx a9 1) 64).toNat), .int .i64 0, .int .i64 0]) [.slice (some ⟨g21, 0, none⟩) l24.length ((mn (mx a9 1) 64).toNat), .int .i64 0, .int .i64 0] 8 (by kernel_rfl) (by kernel_rfl) (by kernel_rfl) (by first | rfl | kernel_rfl) ?_)
  intro g25 w hS
  refine EL.quick 1 [2] [(2, .pointer (some ⟨g25, 0, none⟩))] (by kernel_rfl) ?_
  refine EL.done (by kernel_rfl) ?_
  refine EQ.code ?_
  refine EW.ret (by kernel_rfl) ?_
  simp only [Option.some.injEq, Prod.mk.injEq] at H
  obtain ⟨rfl, rfl, rfl⟩ := H
  exact EQ.leave (.pointer (some ⟨g25, 0, none⟩)) (by kernel_rfl) ⟨_, rfl, g25, (some ⟨g21, 0, none⟩), (mn (mx a9 1) 64).toNat, rfl, (hS.re [1, 1] [] rfl (sub_self))⟩

/-! ### (*confidant/ring.Ring).at: function 59 -/
def ring_Ring_at.f (K : Nat) (l68 : List S37) (a72 : Int) (a73 : Int) (a74 : Int) : Option (Int × Int × Int) := if (l68.length : Int) = 0 then none else (if 0 ≤ (Int.tmod (IntKind.i64.wrap (a72 + a74)) (l68.length : Int)) then (if (Int.tmod (IntKind.i64.wrap (a72 + a74)) (l68.length : Int)) < (l68.length : Int) then (some (a72, a73, Int.tmod (IntKind.i64.wrap (a72 + a74)) (l68.length : Int))) else none) else none)
set_option maxRecDepth 100000 in
theorem ring_Ring_at.calls {K : Nat} {l68 : List S37} {a72 : Int} {a73 : Int} {a74 : Int} {g67 : Nat} {A69 : Option Addr} {C70 : Nat} {x79 : Int} {x80 : Int} {x81 : Int} {B w : World} {os : List Ass} {rs : List Ro} (H : ring_Ring_at.f K l68 a72 a73 a74 = some (x79, x80, x81)) (hS : St B w (Ass.box 90 g67 [.slice A69 l68.length C70, .int .i64 a72, .int .i64 a73] :: Ass.own 37 kS37 A69 C70 l68 :: os) (rs)) :
    Calls Try.prog 59 [.pointer (some ⟨g67, 0, none⟩), .int .i64 a74].toArray w (fun en w' => ∃ v, en = .returned v ∧ v = .pointer (some (((adr A69).add (x81.toNat * 12)).add 0)) ∧ 0 ≤ x81 ∧ x81 < (l68.length : Int) ∧ St B w' (Ass.box 90 g67 [.slice A69 l68.length C70, .int .i64 x79, .int .i64 x80] :: Ass.own 37 kS37 A69 C70 l68 :: os) (rs)) := by
  unfold ring_Ring_at.f at H
  refine calls_of_EW (args := [.pointer (some ⟨g67, 0, none⟩), .int .i64 a74]) (c := Cd59) 22 Try.func59 (by kernel_rfl) (by kernel_rfl) (by kernel_rfl) ?_
  refine EW.seq (x := Cd59.l) (y := Cd59.r) (by kernel_rfl) ?_
  refine EW.region (id := 0) (ops := Cd59.l.ops) (by kernel_rfl) ?_
  refine EL.quick 1 [0, 1] [(0, .pointer (some ⟨g67, 0, none⟩)), (1, .int .i64 a74)] (by kernel_rfl) ?_
  refine EL.done (by kernel_rfl) ?_
  refine EQ.code ?_
  refine EW.seq (x := Cd59.r.l) (y := Cd59.r.r) (by kernel_rfl) ?_
  obtain ⟨h84, H⟩ := ite_out H
  obtain ⟨h85, H⟩ := ite_in H
  obtain ⟨h86, H⟩ := ite_in H
  obtain ⟨ad87, rfl⟩ := St.rd_some hS (Rd.own 1 37 rfl) h85 h86
  have hS := hS.drew
  refine EW.draw (B := B) (id := 1) (ops := Cd59.r.l.ops) [Ass.box 90 g67 [.slice (some ad87) l68.length C70, .int .i64 a72, .int .i64 a73], Ass.own 37 kS37 (some ad87) C70 l68] [] (by kernel_rfl) (by kernel_rfl) ?_
  have hN : Region.noSelect Cd59.r.l.ops = true := (by kernel_rfl)
  have hF : freeAll Cd59.r.l.ops = true := (by kernel_rfl)
  have hC : Core B [Ass.box 90 g67 [.slice (some ad87) l68.length C70, .int .i64 a72, .int .i64 a73], Ass.own 37 kS37 (some ad87) C70 l68] [] _ := ⟨_, _, hS⟩
  refine ED.quick hN hF hC [0, 1, 2, 4, 5, 6, 8, 10, 11, 12] [7, 11, 13, 17] 8 [(7, .pointer (some ⟨g67, 0, none⟩)), (11, .pointer (some ⟨g67, 1, none⟩)), (13, .int .i64 a74), (17, .pointer (some ⟨g67, 0, none⟩))] #[true, true, true, false, true, true, true, false, true, false, true, true, true, false, false, false, false, false] (by kernel_rfl) (by kernel_rfl) ?_
  refine ED.Y hN hF hC 3 7 #[true, true, true, true, true, true, true, false, true, false, true, true, true, false, false, false, false, false] (by kernel_rfl) (by kernel_rfl) rfl (fun _ _ _ hS => YO.loadBox hS 0 rfl 30 0 1 (.slice (some ad87) l68.length C70) 8 (by kernel_rfl) (by kernel_rfl) (by kernel_rfl) (by kernel_rfl)) ?_
  refine ED.Y hN hF hC 7 6 #[true, true, true, true, true, true, true, true, true, false, true, true, true, false, false, false, false, false] (by kernel_rfl) (by kernel_rfl) rfl (fun _ _ _ hS => YO.loadBox hS 0 rfl 3 1 1 (.int .i64 a72) 12 (by kernel_rfl) (by kernel_rfl) (by kernel_rfl) (by kernel_rfl)) ?_
  refine ED.quick hN hF hC [9] [8, 14, 17] 5 [(8, .slice (some ad87) l68.length C70), (14, .int .i64 (IntKind.i64.wrap (a72 + a74))), (17, .pointer (some ⟨g67, 0, none⟩))] #[true, true, true, true, true, true, true, true, true, true, true, true, true, false, false, false, false, false] (by kernel_rfl) (by kernel_rfl) ?_
  refine ED.Y hN hF hC 13 4 #[true, true, true, true, true, true, true, true, true, true, true, true, true, true, false, false, false, false] (by kernel_rfl) (by kernel_rfl) rfl (fun _ _ _ hS => YO.loadBox hS 0 rfl 30 0 1 (.slice (some ad87) l68.length C70) 18 (by kernel_rfl) (by kernel_rfl) (by kernel_rfl) (by kernel_rfl)) ?_
  refine ED.quick hN hF hC [14] [8, 14, 19] 3 [(8, .slice (some ad87) l68.length C70), (14, .int .i64 (IntKind.i64.wrap (a72 + a74))), (19, .int .i64 (l68.length : Int))] #[true, true, true, true, true, true, true, true, true, true, true, true, true, true, true, false, false, false] (by kernel_rfl) (by kernel_rfl) ?_
  refine ED.Y hN hF hC 15 2 #[true, true, true, true, true, true, true, true, true, true, true, true, true, true, true, true, false, false] (by kernel_rfl) (by kernel_rfl) rfl (fun _ _ _ hS => YO.div .rem .i64 (IntKind.i64.wrap (a72 + a74)) (l68.length : Int) (Int.tmod (IntKind.i64.wrap (a72 + a74)) (l68.length : Int)) 20 (by kernel_rfl) (by kernel_rfl) (by kernel_rfl) h84 (by first | exact .inl ⟨rfl, rfl⟩ | exact .inr ⟨rfl, rfl⟩)) ?_
  refine ED.Y hN hF hC 16 1 #[true, true, true, true, true, true, true, true, true, true, true, true, true, true, true, true, true, false] (by kernel_rfl) (by kernel_rfl) rfl (fun _ _ _ hS => YO.idx 30 12 ad87 l68.length C70 .i64 (Int.tmod (IntKind.i64.wrap (a72 + a74)) (l68.length : Int)) 21 (by kernel_rfl) (by kernel_rfl) (by kernel_rfl) (by kernel_rfl) h85 h86) ?_
  refine ED.quick hN hF hC [17] [4] 0 [(4, .pointer (some ((ad87.add ((Int.tmod (IntKind.i64.wrap (a72 + a74)) (l68.length : Int)).toNat * 12)).add 0)))] #[true, true, true, true, true, true, true, true, true, true, true, true, true, true, true, true, true, true] (by kernel_rfl) (by kernel_rfl) ?_
  refine ED.done (by kernel_rfl) ?_
  refine EQ.code ?_
  refine EW.ret (by kernel_rfl) ?_
  simp only [Option.some.injEq, Prod.mk.injEq] at H
  obtain ⟨rfl, rfl, rfl⟩ := H
  exact EQ.leave (.pointer (some ((ad87.add ((Int.tmod (IntKind.i64.wrap (a72 + a74)) (l68.length : Int)).toNat * 12)).add 0))) (by kernel_rfl) ⟨_, rfl, rfl, h85, h86, (hS.re [1, 1] [] rfl (sub_self))⟩

/-! ### slices.Clone[[]int32,int32]: function 82 -/
def slices_Clone_int32_int32.f (K : Nat) (l144 : List Int) : Option (List Int) := lt ([] : List Int) fun l175 => (if (l175.length + l144.length) * 4 ≤ 140737488355328 then (lt (l175 ++ l144) fun l177 => (some l177)) else none)
set_option maxRecDepth 100000 in
theorem slices_Clone_int32_int32.calls {K : Nat} {l144 : List Int} {A145 : Option Addr} {C146 : Nat} {x161 : List Int} {B w : World} {os : List Ass} {rs : List Ro} (H : slices_Clone_int32_int32.f K l144 = some x161) (hS : St B w (os) (Ro.sl (Kd.int .i32) A145 C146 l144 :: rs)) :
    Calls Try.prog 82 [.slice A145 l144.length C146].toArray w (fun en w' => ∃ v, en = .returned v ∧ ∃ A162 : Option Addr, ∃ C163 : Nat, v = .slice A162 x161.length C163 ∧ St B w' (Ass.own 21 (Kd.int .i32) A162 C163 x161 :: os) (Ro.sl (Kd.int .i32) A145 C146 l144 :: rs)) := by
  unfold slices_Clone_int32_int32.f at H
  refine calls_of_EW (args := [.slice A145 l144.length C146]) (c := Cd82) 8 Try.func82 (by kernel_rfl) (by kernel_rfl) (by kernel_rfl) ?_
  refine EW.seq (x := Cd82.l) (y := Cd82.r) (by kernel_rfl) ?_
  refine EW.region (id := 0) (ops := Cd82.l.ops) (by kernel_rfl) ?_
  refine EL.quick 1 [0] [(0, .slice A145 l144.length C146)] (by kernel_rfl) ?_
  refine EL.done (by kernel_rfl) ?_
  refine EQ.code ?_
  refine EW.seq (x := Cd82.r.l) (y := Cd82.r.r) (by kernel_rfl) ?_
  refine EW.seq (x := Cd82.r.l.l) (y := Cd82.r.l.r) (by kernel_rfl) ?_
  refine EW.region (id := 1) (ops := Cd82.r.l.l.ops) (by kernel_rfl) ?_
  refine EL.quick 1 [0, 3] [(0, .slice A145 l144.length C146), (3, .slice A145 l144.length C146)] (by kernel_rfl) ?_
  rcases A145 with _ | ad172
  · have h173 := St.rd_nil hS (Rd.ro 0 rfl)
    have H : (some ([] : List Int)) = some x161 := by simpa [lt, h173] using H
    refine EL.quick 1 [0, 4] [(0, .slice none l144.length C146), (4, .bool (true))] (by kernel_rfl) ?_
    refine EL.done (by kernel_rfl) ?_
    refine EQ.code ?_
    refine EW.condT (o := (.tmp 4)) (x := Cd82.r.l.r.l) (y := Cd82.r.l.r.r) (by kernel_rfl) (by kernel_rfl) ?_
    refine EW.seq (x := Cd82.r.l.r.l.l) (y := Cd82.r.l.r.l.r) (by kernel_rfl) ?_
    refine EW.region (id := 2) (ops := Cd82.r.l.r.l.l.ops) (by kernel_rfl) ?_
    refine EL.quick 1 [2] [(2, .slice none ([] : List Int).length 0)] (by kernel_rfl) ?_
    refine EL.done (by kernel_rfl) ?_
    refine EQ.code ?_
    refine EW.ret (by kernel_rfl) ?_
    refine EQ.ret ?_
    have hS := St.nilO hS 21 (Kd.int .i32)
    obtain rfl := Option.some.inj H
    exact EQ.leave (.slice none ([] : List Int).length 0) (by kernel_rfl) ⟨_, rfl, none, 0, rfl, (hS.re [0] [] rfl (sub_self))⟩
  · refine EL.quick 1 [0, 4] [(0, .slice (some ad172) l144.length C146), (4, .bool (false))] (by kernel_rfl) ?_
    refine EL.done (by kernel_rfl) ?_
    refine EQ.code ?_
    refine EW.condF (o := (.tmp 4)) (x := Cd82.r.l.r.l) (y := Cd82.r.l.r.r) (by kernel_rfl) (by kernel_rfl) ?_
    refine EW.skip (by kernel_rfl) ?_
    refine EQ.code ?_
    refine EW.seq (x := Cd82.r.r.l) (y := Cd82.r.r.r) (by kernel_rfl) ?_
    refine EW.region (id := 3) (ops := Cd82.r.r.l.ops) (by kernel_rfl) ?_
    obtain ⟨l175, hl175, H⟩ := lt_out H
    refine EL.of (EO.lit hS (Kd.int .i32) 21 33 0 #[] [] l175 5 (by kernel_rfl) (by kernel_rfl) (by kernel_rfl) (fun _ => (by kernel_rfl)) (by rw [hl175]; rfl) (by kernel_rfl) (fun w G hr => (by rw [hl175]; exact rfl)) ?_)
    intro g174 w hS
    refine EL.quick 1 [5, 6] [(5, .slice (some ⟨g174, 0, none⟩) l175.length 0), (6, .slice (some ad172) l144.length C146)] (by kernel_rfl) ?_
    obtain ⟨h176, H⟩ := ite_in H
    obtain ⟨l177, hl177, H⟩ := lt_out H
    refine EL.of (EO.append hS 33 33 21 4 0 (Kd.int .i32) (some ⟨g174, 0, none⟩) 0 l175 rfl (some ad172) C146 l144 (Rd.ro 0 rfl) l177 hl177 (fun A178 C179 => Ass.own 21 (Kd.int .i32) A178 C179 l177 :: os) 7 (by kernel_rfl) (by kernel_rfl) (by kernel_rfl) (by kernel_rfl) h176 (fun _ _ => rfl) ?_)
    intro A178 C179 w hS
    refine EL.quick 1 [2] [(2, .slice A178 l177.length C179)] (by kernel_rfl) ?_
    refine EL.done (by kernel_rfl) ?_
    refine EQ.code ?_
    refine EW.ret (by kernel_rfl) ?_
    obtain rfl := Option.some.inj H
    exact EQ.leave (.slice A178 l177.length C179) (by kernel_rfl) ⟨_, rfl, A178, C179, rfl, (hS.re [0] [] rfl (sub_self))⟩

/-! ### confidant/task.Drop: function 77 -/
def task_Drop.f (K : Nat) (a115 : Int) (a116 : Int) (a117 : Int) (l118 : List Int) (a121 : Int) (a122 : Int) (a123 : Int) (a124 : Int) (a125 : Int) (a126 : Int) (a127 : Int) (a128 : Int) (a129 : Int) (l130 : List Int) : Option S37 := lt (IntKind.i64.wrap ((l118.length : Int) - (mn (mx a129 0) (l118.length : Int)))) fun y209 => (if 0 ≤ y209 then (if y209 ≤ (l118.length : Int) then (lt (l118.take y209.toNat) fun l225 => (b1 (slices_Clone_int32_int32.f K l225) fun (t228 : List Int) => (if (t228.length + l130.length) * 4 ≤ 140737488355328 then (lt (t228 ++ l130) fun l233 => (some (⟨a115, a116, IntKind.i64.wrap (a117 + 1), l233, (⟨a121, a122, a123, a124⟩ : S34), a125, a126, a127, a128⟩ : S37))) else none))) else none) else none)
set_option maxRecDepth 100000 in
theorem task_Drop.calls {K : Nat} {a115 : Int} {a116 : Int} {a117 : Int} {l118 : List Int} {a121 : Int} {a122 : Int} {a123 : Int} {a124 : Int} {a125 : Int} {a126 : Int} {a127 : Int} {a128 : Int} {a129 : Int} {l130 : List Int} {A119 : Option Addr} {C120 : Nat} {A131 : Option Addr} {C132 : Nat} {x201 : S37} {B w : World} {os : List Ass} {rs : List Ro} (H : task_Drop.f K a115 a116 a117 l118 a121 a122 a123 a124 a125 a126 a127 a128 a129 l130 = some x201) (hS : St B w (os) (Ro.sl (Kd.int .i32) A119 C120 l118 :: Ro.sl (Kd.int .i32) A131 C132 l130 :: rs)) :
    Calls Try.prog 77 [.agg #[.int .i32 a115, .int .i64 a116, .int .i64 a117, .slice A119 l118.length C120, .int .i32 a121, .int .i32 a122, .int .i32 a123, .int .i32 a124, .int .i64 a125, .int .i64 a126, .int .u32 a127, .int .i64 a128], .int .i64 a129, .slice A131 l130.length C132].toArray w (fun en w' => ∃ v, en = .returned v ∧ ∃ A202 : Option Addr, ∃ C203 : Nat, v = .agg #[.int .i32 x201.f0, .int .i64 x201.f1, .int .i64 x201.f2, .slice A202 x201.f3.length C203, .int .i32 x201.f4.f0, .int .i32 x201.f4.f1, .int .i32 x201.f4.f2, .int .i32 x201.f4.f3, .int .i64 x201.f5, .int .i64 x201.f6, .int .u32 x201.f7, .int .i64 x201.f8] ∧ St B w' (os) (Ro.sl (Kd.int .i32) A202 C203 x201.f3 :: Ro.sl (Kd.int .i32) A119 C120 l118 :: Ro.sl (Kd.int .i32) A131 C132 l130 :: rs)) := by
  unfold task_Drop.f at H
  refine calls_of_EW (args := [.agg #[.int .i32 a115, .int .i64 a116, .int .i64 a117, .slice A119 l118.length C120, .int .i32 a121, .int .i32 a122, .int .i32 a123, .int .i32 a124, .int .i64 a125, .int .i64 a126, .int .u32 a127, .int .i64 a128], .int .i64 a129, .slice A131 l130.length C132]) (c := Cd77) 31 Try.func77 (by kernel_rfl) (by kernel_rfl) (by kernel_rfl) ?_
  refine EW.seq (x := Cd77.l) (y := Cd77.r) (by kernel_rfl) ?_
  refine EW.region (id := 0) (ops := Cd77.l.ops) (by kernel_rfl) ?_
  refine EL.of (EO.box hS 37 (.agg #[.int .i32 a115, .int .i64 a116, .int .i64 a117, .slice A119 l118.length C120, .int .i32 a121, .int .i32 a122, .int .i32 a123, .int .i32 a124, .int .i64 a125, .int .i64 a126, .int .u32 a127, .int .i64 a128]) [.int .i32 a115, .int .i64 a116, .int .i64 a117, .slice A119 l118.length C120, .int .i32 a121, .int .i32 a122, .int .i32 a123, .int .i32 a124, .int .i64 a125, .int .i64 a126, .int .u32 a127, .int .i64 a128] 3 (by kernel_rfl) (by kernel_rfl) (by kernel_rfl) (by first | rfl | kernel_rfl) ?_)
  intro g206 w hS
  refine EL.of (EO.alloc hS 37 (.agg #[.int .i32 0, .int .i64 0, .int .i64 0, .slice none ([] : List Int).length 0, .int .i32 0, .int .i32 0, .int .i32 0, .int .i32 0, .int .i64 0, .int .i64 0, .int .u32 0, .int .i64 0]) [.int .i32 0, .int .i64 0, .int .i64 0, .slice none ([] : List Int).length 0, .int .i32 0, .int .i32 0, .int .i32 0, .int .i32 0, .int .i64 0, .int .i64 0, .int .u32 0, .int .i64 0] 6 (by kernel_rfl) (by kernel_rfl) (by kernel_rfl) (by kernel_rfl) (by first | rfl | kernel_rfl) ?_)
  intro g207 w hS
  refine EL.done (by kernel_rfl) ?_
  refine EQ.code ?_
  refine EW.seq (x := Cd77.r.l) (y := Cd77.r.r) (by kernel_rfl) ?_
  refine EW.region (id := 1) (ops := Cd77.r.l.ops) (by kernel_rfl) ?_
  refine EL.quick 1 [1, 2, 3, 6, 8] [(1, .int .i64 a129), (2, .slice A131 l130.length C132), (3, .pointer (some ⟨g206, 0, none⟩)), (6, .pointer (some ⟨g207, 0, none⟩)), (8, .pointer (some ⟨g206, 3, none⟩))] (by kernel_rfl) ?_
  refine EL.of (EO.Y (YO.loadBox hS 1 rfl 33 3 1 (.slice A119 l118.length C120) 9 (by kernel_rfl) (by kernel_rfl) (by kernel_rfl) (by kernel_rfl)) ?_)
  refine EL.quick 4 [2, 3, 6, 10, 12, 13] [(2, .slice A131 l130.length C132), (3, .pointer (some ⟨g206, 0, none⟩)), (6, .pointer (some ⟨g207, 0, none⟩)), (10, .int .i64 (l118.length : Int)), (12, .int .i64 (mx a129 0)), (13, .pointer (some ⟨g206, 3, none⟩))] (by kernel_rfl) ?_
  refine EL.of (EO.Y (YO.loadBox hS 1 rfl 33 3 1 (.slice A119 l118.length C120) 14 (by kernel_rfl) (by kernel_rfl) (by kernel_rfl) (by kernel_rfl)) ?_)
  refine EL.quick 4 [2, 3, 6, 7] [(2, .slice A131 l130.length C132), (3, .pointer (some ⟨g206, 0, none⟩)), (6, .pointer (some ⟨g207, 0, none⟩)), (7, .int .i64 (IntKind.i64.wrap ((l118.length : Int) - (mn (mx a129 0) (l118.length : Int)))))] (by kernel_rfl) ?_
  obtain ⟨y209, hy209, H⟩ := lt_out H
  refine EL.keep [2, 3, 6, 7] [(2, .slice A131 l130.length C132), (3, .pointer (some ⟨g206, 0, none⟩)), (6, .pointer (some ⟨g207, 0, none⟩)), (7, .int .i64 (IntKind.i64.wrap ((l118.length : Int) - (mn (mx a129 0) (l118.length : Int)))))] (by kernel_rfl) ?_
  refine EL.as' [(2, .slice A131 l130.length C132), (3, .pointer (some ⟨g206, 0, none⟩)), (6, .pointer (some ⟨g207, 0, none⟩)), (7, .int .i64 y209)] (by subst hy209; rfl) ?_
  refine EL.done (by kernel_rfl) ?_
  refine EQ.code ?_
  refine EW.seq (x := Cd77.r.r.l) (y := Cd77.r.r.r) (by kernel_rfl) ?_
  refine EW.region (id := 2) (ops := Cd77.r.r.l.ops) (by kernel_rfl) ?_
  refine EL.quick 1 [2, 3, 6, 7, 18] [(2, .slice A131 l130.length C132), (3, .pointer (some ⟨g206, 0, none⟩)), (6, .pointer (some ⟨g207, 0, none⟩)), (7, .int .i64 y209), (18, .pointer (some ⟨g206, 2, none⟩))] (by kernel_rfl) ?_
  refine EL.of (EO.Y (YO.loadBox hS 1 rfl 3 2 1 (.int .i64 a117) 19 (by kernel_rfl) (by kernel_rfl) (by kernel_rfl) (by kernel_rfl)) ?_)
  refine EL.quick 2 [2, 3, 6, 7, 20, 21] [(2, .slice A131 l130.length C132), (3, .pointer (some ⟨g206, 0, none⟩)), (6, .pointer (some ⟨g207, 0, none⟩)), (7, .int .i64 y209), (20, .int .i64 (IntKind.i64.wrap (a117 + 1))), (21, .pointer (some ⟨g206, 2, none⟩))] (by kernel_rfl) ?_
  refine EL.of (EO.storeBox (os' := Ass.box 37 g207 [.int .i32 0, .int .i64 0, .int .i64 0, .slice none ([] : List Int).length 0, .int .i32 0, .int .i32 0, .int .i32 0, .int .i32 0, .int .i64 0, .int .i64 0, .int .u32 0, .int .i64 0] :: Ass.box 37 g206 [.int .i32 a115, .int .i64 a116, .int .i64 (IntKind.i64.wrap (a117 + 1)), .slice A119 l118.length C120, .int .i32 a121, .int .i32 a122, .int .i32 a123, .int .i32 a124, .int .i64 a125, .int .i64 a126, .int .u32 a127, .int .i64 a128] :: os) hS 1 rfl 3 2 (.int .i64 (IntKind.i64.wrap (a117 + 1))) [.int .i32 a115, .int .i64 a116, .int .i64 (IntKind.i64.wrap (a117 + 1)), .slice A119 l118.length C120, .int .i32 a121, .int .i32 a122, .int .i32 a123, .int .i32 a124, .int .i64 a125, .int .i64 a126, .int .u32 a127, .int .i64 a128] (by kernel_rfl) (by kernel_rfl) (by kernel_rfl) (by kernel_rfl) (by kernel_rfl) (by kernel_rfl) rfl rfl ?_)
  intro w hS
  refine EL.done (by kernel_rfl) ?_
  refine EQ.code ?_
  refine EW.seq (x := Cd77.r.r.r.l) (y := Cd77.r.r.r.r) (by kernel_rfl) ?_
  refine EW.region (id := 3) (ops := Cd77.r.r.r.l.ops) (by kernel_rfl) ?_
  refine EL.quick 1 [2, 3, 6, 7, 22] [(2, .slice A131 l130.length C132), (3, .pointer (some ⟨g206, 0, none⟩)), (6, .pointer (some ⟨g207, 0, none⟩)), (7, .int .i64 y209), (22, .pointer (some ⟨g206, 3, none⟩))] (by kernel_rfl) ?_
  refine EL.of (EO.Y (YO.loadBox hS 1 rfl 33 3 1 (.slice A119 l118.length C120) 23 (by kernel_rfl) (by kernel_rfl) (by kernel_rfl) (by kernel_rfl)) ?_)
  refine EL.quick 1 [2, 3, 6, 23, 24] [(2, .slice A131 l130.length C132), (3, .pointer (some ⟨g206, 0, none⟩)), (6, .pointer (some ⟨g207, 0, none⟩)), (23, .slice A119 l118.length C120), (24, .int .i64 y209)] (by kernel_rfl) ?_
  obtain ⟨h223, H⟩ := ite_in H
  obtain ⟨h224, H⟩ := ite_in H
  obtain ⟨l225, hl225, H⟩ := lt_out H
  refine EL.of (EO.sliceRo hS (Kd.int .i32) A119 C120 l118 0 rfl none (some (.int .i64 y209)) none 0 y209.toNat C120 l225 (by rw [hl225]; exact (slice_hi _ _)) 33 25 (by kernel_rfl) (by kernel_rfl) (by kernel_rfl) (by kernel_rfl) (rfl) ((Int.toNat_of_nonneg (by omega)).symm) ⟨rfl, fun h => by first | rfl | cases h⟩ (by omega) (by omega) (.inl rfl) ?_)
  intro A226 C227 hS
  have hS : St B _ (Ass.box 37 g207 [.int .i32 0, .int .i64 0, .int .i64 0, .slice none ([] : List Int).length 0, .int .i32 0, .int .i32 0, .int .i32 0, .int .i32 0, .int .i64 0, .int .i64 0, .int .u32 0, .int .i64 0] :: Ass.box 37 g206 [.int .i32 a115, .int .i64 a116, .int .i64 (IntKind.i64.wrap (a117 + 1)), .slice A119 l118.length C120, .int .i32 a121, .int .i32 a122, .int .i32 a123, .int .i32 a124, .int .i64 a125, .int .i64 a126, .int .u32 a127, .int .i64 a128] :: os) (Ro.sl (Kd.int .i32) A226 C227 l225 :: Ro.sl (Kd.int .i32) A226 C227 l225 :: Ro.sl (Kd.int .i32) A119 C120 l118 :: Ro.sl (Kd.int .i32) A131 C132 l130 :: rs) := hS.re [] [] rfl (sub_cons 0 rfl sub_self)
  obtain ⟨t228, hc231, H⟩ := b1_out H
  refine EL.of (EO.callD 82 [.slice A226 l225.length C227] _ 26 (by kernel_rfl) (by kernel_rfl) (by kernel_rfl) (slices_Clone_int32_int32.calls hc231 hS) ?_)
  rintro v w ⟨A229, C230, rfl, hS⟩
  refine EL.quick 1 [3, 6, 26, 27] [(3, .pointer (some ⟨g206, 0, none⟩)), (6, .pointer (some ⟨g207, 0, none⟩)), (26, .slice A229 t228.length C230), (27, .slice A131 l130.length C132)] (by kernel_rfl) ?_
  obtain ⟨h232, H⟩ := ite_in H
  obtain ⟨l233, hl233, H⟩ := lt_out H
  refine EL.of (EO.append hS 33 33 21 4 0 (Kd.int .i32) A229 C230 t228 rfl A131 C132 l130 (Rd.ro 3 rfl) l233 hl233 (fun A234 C235 => Ass.own 21 (Kd.int .i32) A234 C235 l233 :: Ass.box 37 g207 [.int .i32 0, .int .i64 0, .int .i64 0, .slice none ([] : List Int).length 0, .int .i32 0, .int .i32 0, .int .i32 0, .int .i32 0, .int .i64 0, .int .i64 0, .int .u32 0, .int .i64 0] :: Ass.box 37 g206 [.int .i32 a115, .int .i64 a116, .int .i64 (IntKind.i64.wrap (a117 + 1)), .slice A119 l118.length C120, .int .i32 a121, .int .i32 a122, .int .i32 a123, .int .i32 a124, .int .i64 a125, .int .i64 a126, .int .u32 a127, .int .i64 a128] :: os) 28 (by kernel_rfl) (by kernel_rfl) (by kernel_rfl) (by kernel_rfl) h232 (fun _ _ => rfl) ?_)
  intro A234 C235 w hS
  refine EL.quick 1 [3, 6, 28, 29] [(3, .pointer (some ⟨g206, 0, none⟩)), (6, .pointer (some ⟨g207, 0, none⟩)), (28, .slice A234 l233.length C235), (29, .pointer (some ⟨g206, 3, none⟩))] (by kernel_rfl) ?_
  refine EL.of (EO.storeBox (os' := Ass.own 21 (Kd.int .i32) A234 C235 l233 :: Ass.box 37 g207 [.int .i32 0, .int .i64 0, .int .i64 0, .slice none ([] : List Int).length 0, .int .i32 0, .int .i32 0, .int .i32 0, .int .i32 0, .int .i64 0, .int .i64 0, .int .u32 0, .int .i64 0] :: Ass.box 37 g206 [.int .i32 a115, .int .i64 a116, .int .i64 (IntKind.i64.wrap (a117 + 1)), .slice A234 l233.length C235, .int .i32 a121, .int .i32 a122, .int .i32 a123, .int .i32 a124, .int .i64 a125, .int .i64 a126, .int .u32 a127, .int .i64 a128] :: os) hS 2 rfl 33 3 (.slice A234 l233.length C235) [.int .i32 a115, .int .i64 a116, .int .i64 (IntKind.i64.wrap (a117 + 1)), .slice A234 l233.length C235, .int .i32 a121, .int .i32 a122, .int .i32 a123, .int .i32 a124, .int .i64 a125, .int .i64 a126, .int .u32 a127, .int .i64 a128] (by kernel_rfl) (by kernel_rfl) (by kernel_rfl) (by kernel_rfl) (by kernel_rfl) (by kernel_rfl) rfl rfl ?_)
  intro w hS
  refine EL.done (by kernel_rfl) ?_
  refine EQ.code ?_
  refine EW.seq (x := Cd77.r.r.r.r.l) (y := Cd77.r.r.r.r.r) (by kernel_rfl) ?_
  refine EW.region (id := 4) (ops := Cd77.r.r.r.r.l.ops) (by kernel_rfl) ?_
  refine EL.of (EO.Y (YO.loadBox hS 2 rfl 37 0 12 (.agg #[.int .i32 a115, .int .i64 a116, .int .i64 (IntKind.i64.wrap (a117 + 1)), .slice A234 l233.length C235, .int .i32 a121, .int .i32 a122, .int .i32 a123, .int .i32 a124, .int .i64 a125, .int .i64 a126, .int .u32 a127, .int .i64 a128]) 30 (by kernel_rfl) (by kernel_rfl) (by kernel_rfl) (by kernel_rfl)) ?_)
  refine EL.of (EO.storeBox (os' := Ass.own 21 (Kd.int .i32) A234 C235 l233 :: Ass.box 37 g207 [.int .i32 a115, .int .i64 a116, .int .i64 (IntKind.i64.wrap (a117 + 1)), .slice A234 l233.length C235, .int .i32 a121, .int .i32 a122, .int .i32 a123, .int .i32 a124, .int .i64 a125, .int .i64 a126, .int .u32 a127, .int .i64 a128] :: Ass.box 37 g206 [.int .i32 a115, .int .i64 a116, .int .i64 (IntKind.i64.wrap (a117 + 1)), .slice A234 l233.length C235, .int .i32 a121, .int .i32 a122, .int .i32 a123, .int .i32 a124, .int .i64 a125, .int .i64 a126, .int .u32 a127, .int .i64 a128] :: os) hS 1 rfl 37 0 (.agg #[.int .i32 a115, .int .i64 a116, .int .i64 (IntKind.i64.wrap (a117 + 1)), .slice A234 l233.length C235, .int .i32 a121, .int .i32 a122, .int .i32 a123, .int .i32 a124, .int .i64 a125, .int .i64 a126, .int .u32 a127, .int .i64 a128]) [.int .i32 a115, .int .i64 a116, .int .i64 (IntKind.i64.wrap (a117 + 1)), .slice A234 l233.length C235, .int .i32 a121, .int .i32 a122, .int .i32 a123, .int .i32 a124, .int .i64 a125, .int .i64 a126, .int .u32 a127, .int .i64 a128] (by kernel_rfl) (by kernel_rfl) (by kernel_rfl) (by kernel_rfl) (by kernel_rfl) (by kernel_rfl) rfl rfl ?_)
  intro w hS
  refine EL.done (by kernel_rfl) ?_
  refine EQ.code ?_
  refine EW.ret (by kernel_rfl) ?_
  have hS := St.fr hS 0 rfl
  obtain rfl := Option.some.inj H
  exact EQ.leaveC hS 0 rfl 6 37 0 12 (.agg #[.int .i32 a115, .int .i64 a116, .int .i64 (IntKind.i64.wrap (a117 + 1)), .slice A234 l233.length C235, .int .i32 a121, .int .i32 a122, .int .i32 a123, .int .i32 a124, .int .i64 a125, .int .i64 a126, .int .u32 a127, .int .i64 a128]) (by kernel_rfl) (by kernel_rfl) (by kernel_rfl) ⟨_, rfl, A234, C235, rfl, (hS.re [] [0, 0] rfl (sub_cons 0 rfl (sub_tail (sub_tail (sub_tail (sub_self))))))⟩

/-! ### confidant/ring.copied: function 58 -/
def ring_copied.f (K : Nat) (a97 : Int) (a98 : Int) (a99 : Int) (l100 : List Int) (a103 : Int) (a104 : Int) (a105 : Int) (a106 : Int) (a107 : Int) (a108 : Int) (a109 : Int) (a110 : Int) : Option S37 := b1 (task_Drop.f K a97 a98 a99 l100 a103 a104 a105 a106 a107 a108 a109 a110 0 ([] : List Int)) fun (t255 : S37) => (some (⟨t255.f0, t255.f1, a99, t255.f3, (⟨t255.f4.f0, t255.f4.f1, t255.f4.f2, t255.f4.f3⟩ : S34), t255.f5, t255.f6, t255.f7, t255.f8⟩ : S37))
set_option maxRecDepth 100000 in
theorem ring_copied.calls {K : Nat} {a97 : Int} {a98 : Int} {a99 : Int} {l100 : List Int} {a103 : Int} {a104 : Int} {a105 : Int} {a106 : Int} {a107 : Int} {a108 : Int} {a109 : Int} {a110 : Int} {A101 : Option Addr} {C102 : Nat} {x244 : S37} {B w : World} {os : List Ass} {rs : List Ro} (H : ring_copied.f K a97 a98 a99 l100 a103 a104 a105 a106 a107 a108 a109 a110 = some x244) (hS : St B w (os) (Ro.sl (Kd.int .i32) A101 C102 l100 :: rs)) :
    Calls Try.prog 58 [.agg #[.int .i32 a97, .int .i64 a98, .int .i64 a99, .slice A101 l100.length C102, .int .i32 a103, .int .i32 a104, .int .i32 a105, .int .i32 a106, .int .i64 a107, .int .i64 a108, .int .u32 a109, .int .i64 a110]].toArray w (fun en w' => ∃ v, en = .returned v ∧ ∃ A245 : Option Addr, ∃ C246 : Nat, v = .agg #[.int .i32 x244.f0, .int .i64 x244.f1, .int .i64 x244.f2, .slice A245 x244.f3.length C246, .int .i32 x244.f4.f0, .int .i32 x244.f4.f1, .int .i32 x244.f4.f2, .int .i32 x244.f4.f3, .int .i64 x244.f5, .int .i64 x244.f6, .int .u32 x244.f7, .int .i64 x244.f8] ∧ St B w' (os) (Ro.sl (Kd.int .i32) A245 C246 x244.f3 :: Ro.sl (Kd.int .i32) A101 C102 l100 :: rs)) := by
  unfold ring_copied.f at H
  refine calls_of_EW (args := [.agg #[.int .i32 a97, .int .i64 a98, .int .i64 a99, .slice A101 l100.length C102, .int .i32 a103, .int .i32 a104, .int .i32 a105, .int .i32 a106, .int .i64 a107, .int .i64 a108, .int .u32 a109, .int .i64 a110]]) (c := Cd58) 11 Try.func58 (by kernel_rfl) (by kernel_rfl) (by kernel_rfl) ?_
  refine EW.seq (x := Cd58.l) (y := Cd58.r) (by kernel_rfl) ?_
  refine EW.region (id := 0) (ops := Cd58.l.ops) (by kernel_rfl) ?_
  refine EL.of (EO.box hS 37 (.agg #[.int .i32 a97, .int .i64 a98, .int .i64 a99, .slice A101 l100.length C102, .int .i32 a103, .int .i32 a104, .int .i32 a105, .int .i32 a106, .int .i64 a107, .int .i64 a108, .int .u32 a109, .int .i64 a110]) [.int .i32 a97, .int .i64 a98, .int .i64 a99, .slice A101 l100.length C102, .int .i32 a103, .int .i32 a104, .int .i32 a105, .int .i32 a106, .int .i64 a107, .int .i64 a108, .int .u32 a109, .int .i64 a110] 1 (by kernel_rfl) (by kernel_rfl) (by kernel_rfl) (by first | rfl | kernel_rfl) ?_)
  intro g249 w hS
  refine EL.of (EO.alloc hS 37 (.agg #[.int .i32 0, .int .i64 0, .int .i64 0, .slice none ([] : List Int).length 0, .int .i32 0, .int .i32 0, .int .i32 0, .int .i32 0, .int .i64 0, .int .i64 0, .int .u32 0, .int .i64 0]) [.int .i32 0, .int .i64 0, .int .i64 0, .slice none ([] : List Int).length 0, .int .i32 0, .int .i32 0, .int .i32 0, .int .i32 0, .int .i64 0, .int .i64 0, .int .u32 0, .int .i64 0] 2 (by kernel_rfl) (by kernel_rfl) (by kernel_rfl) (by kernel_rfl) (by first | rfl | kernel_rfl) ?_)
  intro g250 w hS
  refine EL.done (by kernel_rfl) ?_
  refine EQ.code ?_
  refine EW.seq (x := Cd58.r.l) (y := Cd58.r.r) (by kernel_rfl) ?_
  refine EW.region (id := 1) (ops := Cd58.r.l.ops) (by kernel_rfl) ?_
  refine EL.quick 1 [1, 2, 4] [(1, .pointer (some ⟨g249, 0, none⟩)), (2, .pointer (some ⟨g250, 0, none⟩)), (4, .pointer (some ⟨g249, 2, none⟩))] (by kernel_rfl) ?_
  refine EL.of (EO.Y (YO.loadBox hS 1 rfl 3 2 1 (.int .i64 a99) 5 (by kernel_rfl) (by kernel_rfl) (by kernel_rfl) (by kernel_rfl)) ?_)
  refine EL.quick 1 [1, 2, 3] [(1, .pointer (some ⟨g249, 0, none⟩)), (2, .pointer (some ⟨g250, 0, none⟩)), (3, .int .i64 a99)] (by kernel_rfl) ?_
  refine EL.done (by kernel_rfl) ?_
  refine EQ.code ?_
  refine EW.seq (x := Cd58.r.r.l) (y := Cd58.r.r.r) (by kernel_rfl) ?_
  refine EW.region (id := 2) (ops := Cd58.r.r.l.ops) (by kernel_rfl) ?_
  refine EL.of (EO.Y (YO.loadBox hS 1 rfl 37 0 12 (.agg #[.int .i32 a97, .int .i64 a98, .int .i64 a99, .slice A101 l100.length C102, .int .i32 a103, .int .i32 a104, .int .i32 a105, .int .i32 a106, .int .i64 a107, .int .i64 a108, .int .u32 a109, .int .i64 a110]) 6 (by kernel_rfl) (by kernel_rfl) (by kernel_rfl) (by kernel_rfl)) ?_)
  have hS := St.nilR hS (Kd.int .i32)
  have hS : St B _ (Ass.box 37 g250 [.int .i32 0, .int .i64 0, .int .i64 0, .slice none ([] : List Int).length 0, .int .i32 0, .int .i32 0, .int .i32 0, .int .i32 0, .int .i64 0, .int .i64 0, .int .u32 0, .int .i64 0] :: Ass.box 37 g249 [.int .i32 a97, .int .i64 a98, .int .i64 a99, .slice A101 l100.length C102, .int .i32 a103, .int .i32 a104, .int .i32 a105, .int .i32 a106, .int .i64 a107, .int .i64 a108, .int .u32 a109, .int .i64 a110] :: os) (Ro.sl (Kd.int .i32) A101 C102 l100 :: Ro.sl (Kd.int .i32) none 0 ([] : List Int) :: Ro.sl (Kd.int .i32) none 0 ([] : List Int) :: Ro.sl (Kd.int .i32) A101 C102 l100 :: rs) := hS.re [] [] rfl (sub_cons 1 rfl (sub_cons 0 rfl sub_self))
  obtain ⟨t255, hc258, H⟩ := b1_out H
  refine EL.of (EO.callD 77 [.agg #[.int .i32 a97, .int .i64 a98, .int .i64 a99, .slice A101 l100.length C102, .int .i32 a103, .int .i32 a104, .int .i32 a105, .int .i32 a106, .int .i64 a107, .int .i64 a108, .int .u32 a109, .int .i64 a110], .int .i64 0, .slice none ([] : List Int).length 0] _ 7 (by kernel_rfl) (by kernel_rfl) (by kernel_rfl) (task_Drop.calls hc258 hS) ?_)
  rintro v w ⟨A256, C257, rfl, hS⟩
  refine EL.of (EO.storeBox (os' := Ass.box 37 g250 [.int .i32 0, .int .i64 0, .int .i64 0, .slice none ([] : List Int).length 0, .int .i32 0, .int .i32 0, .int .i32 0, .int .i32 0, .int .i64 0, .int .i64 0, .int .u32 0, .int .i64 0] :: Ass.box 37 g249 [.int .i32 t255.f0, .int .i64 t255.f1, .int .i64 t255.f2, .slice A256 t255.f3.length C257, .int .i32 t255.f4.f0, .int .i32 t255.f4.f1, .int .i32 t255.f4.f2, .int .i32 t255.f4.f3, .int .i64 t255.f5, .int .i64 t255.f6, .int .u32 t255.f7, .int .i64 t255.f8] :: os) hS 1 rfl 37 0 (.agg #[.int .i32 t255.f0, .int .i64 t255.f1, .int .i64 t255.f2, .slice A256 t255.f3.length C257, .int .i32 t255.f4.f0, .int .i32 t255.f4.f1, .int .i32 t255.f4.f2, .int .i32 t255.f4.f3, .int .i64 t255.f5, .int .i64 t255.f6, .int .u32 t255.f7, .int .i64 t255.f8]) [.int .i32 t255.f0, .int .i64 t255.f1, .int .i64 t255.f2, .slice A256 t255.f3.length C257, .int .i32 t255.f4.f0, .int .i32 t255.f4.f1, .int .i32 t255.f4.f2, .int .i32 t255.f4.f3, .int .i64 t255.f5, .int .i64 t255.f6, .int .u32 t255.f7, .int .i64 t255.f8] (by kernel_rfl) (by kernel_rfl) (by kernel_rfl) (by kernel_rfl) (by kernel_rfl) (by kernel_rfl) rfl rfl ?_)
  intro w hS
  refine EL.done (by kernel_rfl) ?_
  refine EQ.code ?_
  refine EW.seq (x := Cd58.r.r.r.l) (y := Cd58.r.r.r.r) (by kernel_rfl) ?_
  refine EW.region (id := 3) (ops := Cd58.r.r.r.l.ops) (by kernel_rfl) ?_
  refine EL.quick 2 [1, 2, 8, 9] [(1, .pointer (some ⟨g249, 0, none⟩)), (2, .pointer (some ⟨g250, 0, none⟩)), (8, .int .i64 a99), (9, .pointer (some ⟨g249, 2, none⟩))] (by kernel_rfl) ?_
  refine EL.of (EO.storeBox (os' := Ass.box 37 g250 [.int .i32 0, .int .i64 0, .int .i64 0, .slice none ([] : List Int).length 0, .int .i32 0, .int .i32 0, .int .i32 0, .int .i32 0, .int .i64 0, .int .i64 0, .int .u32 0, .int .i64 0] :: Ass.box 37 g249 [.int .i32 t255.f0, .int .i64 t255.f1, .int .i64 a99, .slice A256 t255.f3.length C257, .int .i32 t255.f4.f0, .int .i32 t255.f4.f1, .int .i32 t255.f4.f2, .int .i32 t255.f4.f3, .int .i64 t255.f5, .int .i64 t255.f6, .int .u32 t255.f7, .int .i64 t255.f8] :: os) hS 1 rfl 3 2 (.int .i64 a99) [.int .i32 t255.f0, .int .i64 t255.f1, .int .i64 a99, .slice A256 t255.f3.length C257, .int .i32 t255.f4.f0, .int .i32 t255.f4.f1, .int .i32 t255.f4.f2, .int .i32 t255.f4.f3, .int .i64 t255.f5, .int .i64 t255.f6, .int .u32 t255.f7, .int .i64 t255.f8] (by kernel_rfl) (by kernel_rfl) (by kernel_rfl) (by kernel_rfl) (by kernel_rfl) (by kernel_rfl) rfl rfl ?_)
  intro w hS
  refine EL.done (by kernel_rfl) ?_
  refine EQ.code ?_
  refine EW.seq (x := Cd58.r.r.r.r.l) (y := Cd58.r.r.r.r.r) (by kernel_rfl) ?_
  refine EW.region (id := 4) (ops := Cd58.r.r.r.r.l.ops) (by kernel_rfl) ?_
  refine EL.of (EO.Y (YO.loadBox hS 1 rfl 37 0 12 (.agg #[.int .i32 t255.f0, .int .i64 t255.f1, .int .i64 a99, .slice A256 t255.f3.length C257, .int .i32 t255.f4.f0, .int .i32 t255.f4.f1, .int .i32 t255.f4.f2, .int .i32 t255.f4.f3, .int .i64 t255.f5, .int .i64 t255.f6, .int .u32 t255.f7, .int .i64 t255.f8]) 10 (by kernel_rfl) (by kernel_rfl) (by kernel_rfl) (by kernel_rfl)) ?_)
  refine EL.of (EO.storeBox (os' := Ass.box 37 g250 [.int .i32 t255.f0, .int .i64 t255.f1, .int .i64 a99, .slice A256 t255.f3.length C257, .int .i32 t255.f4.f0, .int .i32 t255.f4.f1, .int .i32 t255.f4.f2, .int .i32 t255.f4.f3, .int .i64 t255.f5, .int .i64 t255.f6, .int .u32 t255.f7, .int .i64 t255.f8] :: Ass.box 37 g249 [.int .i32 t255.f0, .int .i64 t255.f1, .int .i64 a99, .slice A256 t255.f3.length C257, .int .i32 t255.f4.f0, .int .i32 t255.f4.f1, .int .i32 t255.f4.f2, .int .i32 t255.f4.f3, .int .i64 t255.f5, .int .i64 t255.f6, .int .u32 t255.f7, .int .i64 t255.f8] :: os) hS 0 rfl 37 0 (.agg #[.int .i32 t255.f0, .int .i64 t255.f1, .int .i64 a99, .slice A256 t255.f3.length C257, .int .i32 t255.f4.f0, .int .i32 t255.f4.f1, .int .i32 t255.f4.f2, .int .i32 t255.f4.f3, .int .i64 t255.f5, .int .i64 t255.f6, .int .u32 t255.f7, .int .i64 t255.f8]) [.int .i32 t255.f0, .int .i64 t255.f1, .int .i64 a99, .slice A256 t255.f3.length C257, .int .i32 t255.f4.f0, .int .i32 t255.f4.f1, .int .i32 t255.f4.f2, .int .i32 t255.f4.f3, .int .i64 t255.f5, .int .i64 t255.f6, .int .u32 t255.f7, .int .i64 t255.f8] (by kernel_rfl) (by kernel_rfl) (by kernel_rfl) (by kernel_rfl) (by kernel_rfl) (by kernel_rfl) rfl rfl ?_)
  intro w hS
  refine EL.done (by kernel_rfl) ?_
  refine EQ.code ?_
  refine EW.ret (by kernel_rfl) ?_
  obtain rfl := Option.some.inj H
  exact EQ.leaveC hS 0 rfl 2 37 0 12 (.agg #[.int .i32 t255.f0, .int .i64 t255.f1, .int .i64 a99, .slice A256 t255.f3.length C257, .int .i32 t255.f4.f0, .int .i32 t255.f4.f1, .int .i32 t255.f4.f2, .int .i32 t255.f4.f3, .int .i64 t255.f5, .int .i64 t255.f6, .int .u32 t255.f7, .int .i64 t255.f8]) (by kernel_rfl) (by kernel_rfl) (by kernel_rfl) ⟨_, rfl, A256, C257, rfl, (hS.re [] [0, 0] rfl (sub_cons 0 rfl (sub_tail (sub_tail (sub_tail (sub_tail (sub_self)))))))⟩

/-! ### (*confidant/ring.Ring).Push: function 19 -/
def ring_Ring_Push.f (K : Nat) (l42 : List S37) (a46 : Int) (a47 : Int) (a48 : Int) (a49 : Int) (a50 : Int) (l51 : List Int) (a54 : Int) (a55 : Int) (a56 : Int) (a57 : Int) (a58 : Int) (a59 : Int) (a60 : Int) (a61 : Int) : Option (List S37 × Int × Int × Bool) := if a47 = (l42.length : Int) then (some (l42, a46, a47, false)) else (b3 (ring_Ring_at.f K l42 a46 a47 a47) fun (t298 : Int) (t299 : Int) (t300 : Int) => (b1 (ring_copied.f K a48 a49 a50 l51 a54 a55 a56 a57 a58 a59 a60 a61) fun (t305 : S37) => (lt (l42.set t300.toNat (⟨t305.f0, t305.f1, t305.f2, t305.f3, (⟨t305.f4.f0, t305.f4.f1, t305.f4.f2, t305.f4.f3⟩ : S34), t305.f5, t305.f6, t305.f7, t305.f8⟩ : S37)) fun l309 => (some (l309, t298, IntKind.i64.wrap (t299 + 1), true)))))
set_option maxRecDepth 100000 in
theorem ring_Ring_Push.calls {K : Nat} {l42 : List S37} {a46 : Int} {a47 : Int} {a48 : Int} {a49 : Int} {a50 : Int} {l51 : List Int} {a54 : Int} {a55 : Int} {a56 : Int} {a57 : Int} {a58 : Int} {a59 : Int} {a60 : Int} {a61 : Int} {g41 : Nat} {A43 : Option Addr} {C44 : Nat} {A52 : Option Addr} {C53 : Nat} {x276 : List S37} {x279 : Int} {x280 : Int} {x281 : Bool} {B w : World} {os : List Ass} {rs : List Ro} (H : ring_Ring_Push.f K l42 a46 a47 a48 a49 a50 l51 a54 a55 a56 a57 a58 a59 a60 a61 = some (x276, x279, x280, x281)) (hS : St B w (Ass.box 90 g41 [.slice A43 l42.length C44, .int .i64 a46, .int .i64 a47] :: Ass.own 37 kS37 A43 C44 l42 :: os) (Ro.sl (Kd.int .i32) A52 C53 l51 :: rs)) :
    Calls Try.prog 19 [.pointer (some ⟨g41, 0, none⟩), .agg #[.int .i32 a48, .int .i64 a49, .int .i64 a50, .slice A52 l51.length C53, .int .i32 a54, .int .i32 a55, .int .i32 a56, .int .i32 a57, .int .i64 a58, .int .i64 a59, .int .u32 a60, .int .i64 a61]].toArray w (fun en w' => ∃ v, en = .returned v ∧ ∃ A277 : Option Addr, ∃ C278 : Nat, v = .bool (x281) ∧ St B w' (Ass.box 90 g41 [.slice A277 x276.length C278, .int .i64 x279, .int .i64 x280] :: Ass.own 37 kS37 A277 C278 x276 :: os) (Ro.sl (Kd.int .i32) A52 C53 l51 :: rs)) := by
  unfold ring_Ring_Push.f at H
  refine calls_of_EW (args := [.pointer (some ⟨g41, 0, none⟩), .agg #[.int .i32 a48, .int .i64 a49, .int .i64 a50, .slice A52 l51.length C53, .int .i32 a54, .int .i32 a55, .int .i32 a56, .int .i32 a57, .int .i64 a58, .int .i64 a59, .int .u32 a60, .int .i64 a61]]) (c := Cd19) 31 Try.func19 (by kernel_rfl) (by kernel_rfl) (by kernel_rfl) ?_
  refine EW.seq (x := Cd19.l) (y := Cd19.r) (by kernel_rfl) ?_
  refine EW.region (id := 0) (ops := Cd19.l.ops) (by kernel_rfl) ?_
  refine EL.of (EO.box hS 37 (.agg #[.int .i32 a48, .int .i64 a49, .int .i64 a50, .slice A52 l51.length C53, .int .i32 a54, .int .i32 a55, .int .i32 a56, .int .i32 a57, .int .i64 a58, .int .i64 a59, .int .u32 a60, .int .i64 a61]) [.int .i32 a48, .int .i64 a49, .int .i64 a50, .slice A52 l51.length C53, .int .i32 a54, .int .i32 a55, .int .i32 a56, .int .i32 a57, .int .i64 a58, .int .i64 a59, .int .u32 a60, .int .i64 a61] 3 (by kernel_rfl) (by kernel_rfl) (by kernel_rfl) (by first | rfl | kernel_rfl) ?_)
  intro g283 w hS
  refine EL.quick 1 [0, 3] [(0, .pointer (some ⟨g41, 0, none⟩)), (3, .pointer (some ⟨g283, 0, none⟩))] (by kernel_rfl) ?_
  refine EL.done (by kernel_rfl) ?_
  refine EQ.code ?_
  refine EW.seq (x := Cd19.r.l) (y := Cd19.r.r) (by kernel_rfl) ?_
  refine EW.seq (x := Cd19.r.l.l) (y := Cd19.r.l.r) (by kernel_rfl) ?_
  have hS := hS.drew
  refine EW.draw (B := B) (id := 1) (ops := Cd19.r.l.l.ops) [Ass.box 37 g283 [.int .i32 a48, .int .i64 a49, .int .i64 a50, .slice A52 l51.length C53, .int .i32 a54, .int .i32 a55, .int .i32 a56, .int .i32 a57, .int .i64 a58, .int .i64 a59, .int .u32 a60, .int .i64 a61], Ass.box 90 g41 [.slice A43 l42.length C44, .int .i64 a46, .int .i64 a47], Ass.own 37 kS37 A43 C44 l42] [Ro.sl (Kd.int .i32) A52 C53 l51] (by kernel_rfl) (by kernel_rfl) ?_
  have hN : Region.noSelect Cd19.r.l.l.ops = true := (by kernel_rfl)
  have hF : freeAll Cd19.r.l.l.ops = true := (by kernel_rfl)
  have hC : Core B [Ass.box 37 g283 [.int .i32 a48, .int .i64 a49, .int .i64 a50, .slice A52 l51.length C53, .int .i32 a54, .int .i32 a55, .int .i32 a56, .int .i32 a57, .int .i64 a58, .int .i64 a59, .int .u32 a60, .int .i64 a61], Ass.box 90 g41 [.slice A43 l42.length C44, .int .i64 a46, .int .i64 a47], Ass.own 37 kS37 A43 C44 l42] [Ro.sl (Kd.int .i32) A52 C53 l51] _ := ⟨_, _, hS⟩
  refine ED.quick hN hF hC [0, 1, 2, 4, 5, 6] [0, 3, 7, 11] 4 [(0, .pointer (some ⟨g41, 0, none⟩)), (3, .pointer (some ⟨g283, 0, none⟩)), (7, .pointer (some ⟨g41, 2, none⟩)), (11, .pointer (some ⟨g41, 0, none⟩))] #[true, true, true, false, true, true, true, false, false, false] (by kernel_rfl) (by kernel_rfl) ?_
  refine ED.Y hN hF hC 3 3 #[true, true, true, true, true, true, true, false, false, false] (by kernel_rfl) (by kernel_rfl) rfl (fun _ _ _ hS => YO.loadBox hS 1 rfl 3 2 1 (.int .i64 a47) 8 (by kernel_rfl) (by kernel_rfl) (by kernel_rfl) (by kernel_rfl)) ?_
  refine ED.Y hN hF hC 7 2 #[true, true, true, true, true, true, true, true, false, false] (by kernel_rfl) (by kernel_rfl) rfl (fun _ _ _ hS => YO.loadBox hS 1 rfl 30 0 1 (.slice A43 l42.length C44) 12 (by kernel_rfl) (by kernel_rfl) (by kernel_rfl) (by kernel_rfl)) ?_
  refine ED.quick hN hF hC [8, 9] [0, 3, 14] 0 [(0, .pointer (some ⟨g41, 0, none⟩)), (3, .pointer (some ⟨g283, 0, none⟩)), (14, .bool (decide (a47 = (l42.length : Int))))] #[true, true, true, true, true, true, true, true, true, true] (by kernel_rfl) (by kernel_rfl) ?_
  refine ED.done (by kernel_rfl) ?_
  refine EQ.code ?_
  refine EW.condP (o := (.tmp 14)) (x := Cd19.r.l.r.l) (y := Cd19.r.l.r.r) (a47 = (l42.length : Int)) (by kernel_rfl) (by kernel_rfl) (fun h285 => ?_) (fun h285 => ?_)
  · rw [if_pos h285] at H
    refine EW.seq (x := Cd19.r.l.r.l.l) (y := Cd19.r.l.r.l.r) (by kernel_rfl) ?_
    refine EW.region (id := 2) (ops := Cd19.r.l.r.l.l.ops) (by kernel_rfl) ?_
    refine EL.quick 1 [4] [(4, .bool (false))] (by kernel_rfl) ?_
    refine EL.done (by kernel_rfl) ?_
    refine EQ.code ?_
    refine EW.ret (by kernel_rfl) ?_
    refine EQ.ret ?_
    simp only [Option.some.injEq, Prod.mk.injEq] at H
    obtain ⟨rfl, rfl, rfl, rfl⟩ := H
    exact EQ.leave (.bool (false)) (by kernel_rfl) ⟨_, rfl, A43, C44, rfl, (hS.re [2, 2] [2] rfl (sub_self))⟩
  · rw [if_neg h285] at H
    refine EW.skip (by kernel_rfl) ?_
    refine EQ.code ?_
    refine EW.seq (x := Cd19.r.r.l) (y := Cd19.r.r.r) (by kernel_rfl) ?_
    obtain ⟨t298, t299, t300, hc301, H⟩ := b3_out H
    obtain ⟨t305, hc308, H⟩ := b1_out H
    obtain ⟨l309, hl309, H⟩ := lt_out H
    have hS := hS.drew
    refine EW.draw (B := B) (id := 3) (ops := Cd19.r.r.l.ops) [Ass.box 37 g283 [.int .i32 a48, .int .i64 a49, .int .i64 a50, .slice A52 l51.length C53, .int .i32 a54, .int .i32 a55, .int .i32 a56, .int .i32 a57, .int .i64 a58, .int .i64 a59, .int .u32 a60, .int .i64 a61]] [Ro.sl (Kd.int .i32) A52 C53 l51] (by kernel_rfl) (by kernel_rfl) ?_
    have hN : Region.noSelect Cd19.r.r.l.ops = true := (by kernel_rfl)
    have hF : freeAll Cd19.r.r.l.ops = true := (by kernel_rfl)
    have hC : Core B [Ass.box 37 g283 [.int .i32 a48, .int .i64 a49, .int .i64 a50, .slice A52 l51.length C53, .int .i32 a54, .int .i32 a55, .int .i32 a56, .int .i32 a57, .int .i64 a58, .int .i64 a59, .int .u32 a60, .int .i64 a61]] [Ro.sl (Kd.int .i32) A52 C53 l51] _ := ⟨_, _, hS⟩
    refine ED.quick hN hF hC [0, 1, 2, 3] [0, 3, 15, 18] 6 [(0, .pointer (some ⟨g41, 0, none⟩)), (3, .pointer (some ⟨g283, 0, none⟩)), (15, .pointer (some ⟨g41, 0, none⟩)), (18, .pointer (some ⟨g41, 2, none⟩))] #[true, true, true, true, false, false, false, false, false, false] (by kernel_rfl) (by kernel_rfl) ?_
    refine ED.Y hN hF hC 6 5 #[true, true, true, true, false, false, true, false, false, false] (by kernel_rfl) (by kernel_rfl) rfl (fun _ _ _ hS => YO.loadBox hS 0 rfl 37 0 12 (.agg #[.int .i32 a48, .int .i64 a49, .int .i64 a50, .slice A52 l51.length C53, .int .i32 a54, .int .i32 a55, .int .i32 a56, .int .i32 a57, .int .i64 a58, .int .i64 a59, .int .u32 a60, .int .i64 a61]) 21 (by kernel_rfl) (by kernel_rfl) (by kernel_rfl) (by kernel_rfl)) ?_
    refine ED.one 4 4 #[true, true, true, true, true, false, true, false, false, false] (by kernel_rfl) (by kernel_rfl) (by kernel_rfl) (EO.Y (YO.loadBox hS 1 rfl 3 2 1 (.int .i64 a47) 19 (by kernel_rfl) (by kernel_rfl) (by kernel_rfl) (by kernel_rfl)) ?_)
    have hC : Core B [Ass.box 37 g283 [.int .i32 a48, .int .i64 a49, .int .i64 a50, .slice A52 l51.length C53, .int .i32 a54, .int .i32 a55, .int .i32 a56, .int .i32 a57, .int .i64 a58, .int .i64 a59, .int .u32 a60, .int .i64 a61]] [Ro.sl (Kd.int .i32) A52 C53 l51] _ := ⟨_, _, hS⟩
    refine ⟨hC, ?_⟩
    have hS : St B _ (Ass.box 90 g41 [.slice A43 l42.length C44, .int .i64 a46, .int .i64 a47] :: Ass.own 37 kS37 A43 C44 l42 :: Ass.box 37 g283 [.int .i32 a48, .int .i64 a49, .int .i64 a50, .slice A52 l51.length C53, .int .i32 a54, .int .i32 a55, .int .i32 a56, .int .i32 a57, .int .i64 a58, .int .i64 a59, .int .u32 a60, .int .i64 a61] :: os) (Ro.sl (Kd.int .i32) A52 C53 l51 :: rs) := hS.re [2, 2] [] rfl sub_self
    refine ED.one 5 3 #[true, true, true, true, true, true, true, false, false, false] (by kernel_rfl) (by kernel_rfl) (by kernel_rfl) (EO.callD 59 [.pointer (some ⟨g41, 0, none⟩), .int .i64 a47] _ 20 (by kernel_rfl) (by kernel_rfl) (by kernel_rfl) (ring_Ring_at.calls hc301 hS) ?_)
    rintro v w ⟨rfl, h315, h316, hS⟩
    obtain ⟨ad317, rfl⟩ := St.rd_some hS (Rd.own 1 37 rfl) h315 h316
    have hC : Core B [Ass.box 37 g283 [.int .i32 a48, .int .i64 a49, .int .i64 a50, .slice A52 l51.length C53, .int .i32 a54, .int .i32 a55, .int .i32 a56, .int .i32 a57, .int .i64 a58, .int .i64 a59, .int .u32 a60, .int .i64 a61]] [Ro.sl (Kd.int .i32) A52 C53 l51] _ := ⟨_, _, hS.re [2] [] rfl sub_self⟩
    refine ⟨hC, ?_⟩
    have hS : St B _ (Ass.box 90 g41 [.slice (some ad317) l42.length C44, .int .i64 t298, .int .i64 t299] :: Ass.own 37 kS37 (some ad317) C44 l42 :: Ass.box 37 g283 [.int .i32 a48, .int .i64 a49, .int .i64 a50, .slice A52 l51.length C53, .int .i32 a54, .int .i32 a55, .int .i32 a56, .int .i32 a57, .int .i64 a58, .int .i64 a59, .int .u32 a60, .int .i64 a61] :: os) (Ro.sl (Kd.int .i32) A52 C53 l51 :: Ro.sl (Kd.int .i32) A52 C53 l51 :: rs) := hS.re [] [] rfl (sub_cons 0 rfl sub_self)
    refine ED.one 7 2 #[true, true, true, true, true, true, true, true, false, false] (by kernel_rfl) (by kernel_rfl) (by kernel_rfl) (EO.callD 58 [.agg #[.int .i32 a48, .int .i64 a49, .int .i64 a50, .slice A52 l51.length C53, .int .i32 a54, .int .i32 a55, .int .i32 a56, .int .i32 a57, .int .i64 a58, .int .i64 a59, .int .u32 a60, .int .i64 a61]] _ 22 (by kernel_rfl) (by kernel_rfl) (by kernel_rfl) (ring_copied.calls hc308 hS) ?_)
    rintro v w ⟨A318, C319, rfl, hS⟩
    have hC : Core B [Ass.box 37 g283 [.int .i32 a48, .int .i64 a49, .int .i64 a50, .slice A52 l51.length C53, .int .i32 a54, .int .i32 a55, .int .i32 a56, .int .i32 a57, .int .i64 a58, .int .i64 a59, .int .u32 a60, .int .i64 a61]] [Ro.sl (Kd.int .i32) A52 C53 l51] _ := ⟨_, _, hS.re [2] [] rfl (sub_cons 1 rfl sub_self)⟩
    refine ⟨hC, ?_⟩
    refine ED.quick hN hF hC [8] [0, 22, 23] 1 [(0, .pointer (some ⟨g41, 0, none⟩)), (22, .agg #[.int .i32 t305.f0, .int .i64 t305.f1, .int .i64 t305.f2, .slice A318 t305.f3.length C319, .int .i32 t305.f4.f0, .int .i32 t305.f4.f1, .int .i32 t305.f4.f2, .int .i32 t305.f4.f3, .int .i64 t305.f5, .int .i64 t305.f6, .int .u32 t305.f7, .int .i64 t305.f8]), (23, .pointer (some ((ad317.add (t300.toNat * 12)).add 0)))] #[true, true, true, true, true, true, true, true, true, false] (by kernel_rfl) (by kernel_rfl) ?_
    refine ED.one 9 0 #[true, true, true, true, true, true, true, true, true, true] (by kernel_rfl) (by kernel_rfl) (by kernel_rfl) (EO.storeEl hS 1 kS37 37 ad317 C44 l42 rfl t300 h315 h316 zS37 37 12 0 rfl (.agg #[.int .i32 t305.f0, .int .i64 t305.f1, .int .i64 t305.f2, .slice A318 t305.f3.length C319, .int .i32 t305.f4.f0, .int .i32 t305.f4.f1, .int .i32 t305.f4.f2, .int .i32 t305.f4.f3, .int .i64 t305.f5, .int .i64 t305.f6, .int .u32 t305.f7, .int .i64 t305.f8]) (⟨t305.f0, t305.f1, t305.f2, t305.f3, (⟨t305.f4.f0, t305.f4.f1, t305.f4.f2, t305.f4.f3⟩ : S34), t305.f5, t305.f6, t305.f7, t305.f8⟩ : S37) l309 hl309 (Ass.box 90 g41 [.slice (some ad317) l42.length C44, .int .i64 t298, .int .i64 t299] :: Ass.own 37 kS37 (some ad317) C44 l309 :: Ass.box 37 g283 [.int .i32 a48, .int .i64 a49, .int .i64 a50, .slice A52 l51.length C53, .int .i32 a54, .int .i32 a55, .int .i32 a56, .int .i32 a57, .int .i64 a58, .int .i64 a59, .int .u32 a60, .int .i64 a61] :: os) (by kernel_rfl) (by kernel_rfl) (by kernel_rfl) (by kernel_rfl) (by kernel_rfl) (by kernel_rfl) (fun w G vs hr h => set_whole h (by kernel_rfl) ⟨[.int .i32 t305.f0], [.int .i64 t305.f1, .int .i64 t305.f2, .slice A318 t305.f3.length C319, .int .i32 t305.f4.f0, .int .i32 t305.f4.f1, .int .i32 t305.f4.f2, .int .i32 t305.f4.f3, .int .i64 t305.f5, .int .i64 t305.f6, .int .u32 t305.f7, .int .i64 t305.f8], rfl, rfl, ⟨[.int .i64 t305.f1], [.int .i64 t305.f2, .slice A318 t305.f3.length C319, .int .i32 t305.f4.f0, .int .i32 t305.f4.f1, .int .i32 t305.f4.f2, .int .i32 t305.f4.f3, .int .i64 t305.f5, .int .i64 t305.f6, .int .u32 t305.f7, .int .i64 t305.f8], rfl, rfl, ⟨[.int .i64 t305.f2], [.slice A318 t305.f3.length C319, .int .i32 t305.f4.f0, .int .i32 t305.f4.f1, .int .i32 t305.f4.f2, .int .i32 t305.f4.f3, .int .i64 t305.f5, .int .i64 t305.f6, .int .u32 t305.f7, .int .i64 t305.f8], rfl, rfl, ⟨[.slice A318 t305.f3.length C319], [.int .i32 t305.f4.f0, .int .i32 t305.f4.f1, .int .i32 t305.f4.f2, .int .i32 t305.f4.f3, .int .i64 t305.f5, .int .i64 t305.f6, .int .u32 t305.f7, .int .i64 t305.f8], rfl, (hr _ (List.mem_of_getElem? (i := 0) rfl)), ⟨[.int .i32 t305.f4.f0, .int .i32 t305.f4.f1, .int .i32 t305.f4.f2, .int .i32 t305.f4.f3], [.int .i64 t305.f5, .int .i64 t305.f6, .int .u32 t305.f7, .int .i64 t305.f8], rfl, ⟨[.int .i32 t305.f4.f0], [.int .i32 t305.f4.f1, .int .i32 t305.f4.f2, .int .i32 t305.f4.f3], rfl, rfl, ⟨[.int .i32 t305.f4.f1], [.int .i32 t305.f4.f2, .int .i32 t305.f4.f3], rfl, rfl, ⟨[.int .i32 t305.f4.f2], [.int .i32 t305.f4.f3], rfl, rfl, ⟨[.int .i32 t305.f4.f3], [], rfl, rfl, rfl⟩⟩⟩⟩, ⟨[.int .i64 t305.f5], [.int .i64 t305.f6, .int .u32 t305.f7, .int .i64 t305.f8], rfl, rfl, ⟨[.int .i64 t305.f6], [.int .u32 t305.f7, .int .i64 t305.f8], rfl, rfl, ⟨[.int .u32 t305.f7], [.int .i64 t305.f8], rfl, rfl, ⟨[.int .i64 t305.f8], [], rfl, rfl, rfl⟩⟩⟩⟩⟩⟩⟩⟩⟩) rfl ?_)
    intro w hS
    have hS : St B w (Ass.box 90 g41 [.slice (some ad317) l309.length C44, .int .i64 t298, .int .i64 t299] :: Ass.own 37 kS37 (some ad317) C44 l309 :: Ass.box 37 g283 [.int .i32 a48, .int .i64 a49, .int .i64 a50, .slice A52 l51.length C53, .int .i32 a54, .int .i32 a55, .int .i32 a56, .int .i32 a57, .int .i64 a58, .int .i64 a59, .int .u32 a60, .int .i64 a61] :: os) (Ro.sl (Kd.int .i32) A318 C319 t305.f3 :: Ro.sl (Kd.int .i32) A52 C53 l51 :: Ro.sl (Kd.int .i32) A52 C53 l51 :: rs) := by simpa only [hl309, List.length_set] using hS
    have hC : Core B [Ass.box 37 g283 [.int .i32 a48, .int .i64 a49, .int .i64 a50, .slice A52 l51.length C53, .int .i32 a54, .int .i32 a55, .int .i32 a56, .int .i32 a57, .int .i64 a58, .int .i64 a59, .int .u32 a60, .int .i64 a61]] [Ro.sl (Kd.int .i32) A52 C53 l51] _ := ⟨_, _, hS.re [2] [] rfl (sub_cons 1 rfl sub_self)⟩
    refine ⟨hC, ?_⟩
    refine ED.done (by kernel_rfl) ?_
    refine EQ.code ?_
    refine EW.seq (x := Cd19.r.r.r.l) (y := Cd19.r.r.r.r) (by kernel_rfl) ?_
    refine EW.region (id := 4) (ops := Cd19.r.r.r.l.ops) (by kernel_rfl) ?_
    refine EL.quick 3 [24, 26] [(24, .pointer (some ⟨g41, 0, none⟩)), (26, .pointer (some ⟨g41, 2, none⟩))] (by kernel_rfl) ?_
    refine EL.of (EO.Y (YO.loadBox hS 0 rfl 3 2 1 (.int .i64 t299) 27 (by kernel_rfl) (by kernel_rfl) (by kernel_rfl) (by kernel_rfl)) ?_)
    refine EL.quick 3 [28, 30] [(28, .int .i64 (IntKind.i64.wrap (t299 + 1))), (30, .pointer (some ⟨g41, 2, none⟩))] (by kernel_rfl) ?_
    refine EL.of (EO.storeBox (os' := Ass.box 90 g41 [.slice (some ad317) l309.length C44, .int .i64 t298, .int .i64 (IntKind.i64.wrap (t299 + 1))] :: Ass.own 37 kS37 (some ad317) C44 l309 :: Ass.box 37 g283 [.int .i32 a48, .int .i64 a49, .int .i64 a50, .slice A52 l51.length C53, .int .i32 a54, .int .i32 a55, .int .i32 a56, .int .i32 a57, .int .i64 a58, .int .i64 a59, .int .u32 a60, .int .i64 a61] :: os) hS 0 rfl 3 2 (.int .i64 (IntKind.i64.wrap (t299 + 1))) [.slice (some ad317) l309.length C44, .int .i64 t298, .int .i64 (IntKind.i64.wrap (t299 + 1))] (by kernel_rfl) (by kernel_rfl) (by kernel_rfl) (by kernel_rfl) (by kernel_rfl) (by kernel_rfl) rfl rfl ?_)
    intro w hS
    refine EL.done (by kernel_rfl) ?_
    refine EQ.code ?_
    refine EW.seq (x := Cd19.r.r.r.r.l) (y := Cd19.r.r.r.r.r) (by kernel_rfl) ?_
    refine EW.region (id := 5) (ops := Cd19.r.r.r.r.l.ops) (by kernel_rfl) ?_
    refine EL.quick 1 [4] [(4, .bool (true))] (by kernel_rfl) ?_
    refine EL.done (by kernel_rfl) ?_
    refine EQ.code ?_
    refine EW.ret (by kernel_rfl) ?_
    simp only [Option.some.injEq, Prod.mk.injEq] at H
    obtain ⟨rfl, rfl, rfl, rfl⟩ := H
    exact EQ.leave (.bool (true)) (by kernel_rfl) ⟨_, rfl, (some ad317), C44, rfl, (hS.re [1, 1] [2] rfl (sub_tail (sub_tail (sub_self))))⟩

/-! ### (*confidant/ring.Ring).Pop: function 21 -/
def ring_Ring_Pop.f (K : Nat) (l378 : List S37) (a382 : Int) (a383 : Int) : Option (Int × Int × S37 × Bool) := if a383 = 0 then (some (a382, a383, (⟨0, 0, 0, ([] : List Int), (⟨0, 0, 0, 0⟩ : S34), 0, 0, 0, 0⟩ : S37), false)) else (b3 (ring_Ring_at.f K l378 a382 (IntKind.i64.wrap (a383 - 1)) (IntKind.i64.wrap (a383 - 1))) fun (t406 : Int) (t407 : Int) (t408 : Int) => (some (t406, t407, (⟨(l378.getD t408.toNat zS37).f0, (l378.getD t408.toNat zS37).f1, (l378.getD t408.toNat zS37).f2, (l378.getD t408.toNat zS37).f3, (⟨(l378.getD t408.toNat zS37).f4.f0, (l378.getD t408.toNat zS37).f4.f1, (l378.getD t408.toNat zS37).f4.f2, (l378.getD t408.toNat zS37).f4.f3⟩ : S34), (l378.getD t408.toNat zS37).f5, (l378.getD t408.toNat zS37).f6, (l378.getD t408.toNat zS37).f7, (l378.getD t408.toNat zS37).f8⟩ : S37), true)))
set_option maxRecDepth 100000 in
theorem ring_Ring_Pop.calls {K : Nat} {l378 : List S37} {a382 : Int} {a383 : Int} {g377 : Nat} {A379 : Option Addr} {C380 : Nat} {x396 : Int} {x397 : Int} {x398 : S37} {x401 : Bool} {B w : World} {os : List Ass} {rs : List Ro} (H : ring_Ring_Pop.f K l378 a382 a383 = some (x396, x397, x398, x401)) (hS : St B w (Ass.box 90 g377 [.slice A379 l378.length C380, .int .i64 a382, .int .i64 a383] :: Ass.own 37 kS37 A379 C380 l378 :: os) (rs)) :
    Calls Try.prog 21 [.pointer (some ⟨g377, 0, none⟩)].toArray w (fun en w' => ∃ v, en = .returned v ∧ ∃ A399 : Option Addr, ∃ C400 : Nat, v = .tuple #[.agg #[.int .i32 x398.f0, .int .i64 x398.f1, .int .i64 x398.f2, .slice A399 x398.f3.length C400, .int .i32 x398.f4.f0, .int .i32 x398.f4.f1, .int .i32 x398.f4.f2, .int .i32 x398.f4.f3, .int .i64 x398.f5, .int .i64 x398.f6, .int .u32 x398.f7, .int .i64 x398.f8], .bool (x401)] ∧ St B w' (Ass.box 90 g377 [.slice A379 l378.length C380, .int .i64 x396, .int .i64 x397] :: Ass.own 37 kS37 A379 C380 l378 :: os) (Ro.sl (Kd.int .i32) A399 C400 x398.f3 :: rs)) := by
  unfold ring_Ring_Pop.f at H
  refine calls_of_EW (args := [.pointer (some ⟨g377, 0, none⟩)]) (c := Cd21) 25 Try.func21 (by kernel_rfl) (by kernel_rfl) (by kernel_rfl) ?_
  refine EW.seq (x := Cd21.l) (y := Cd21.r) (by kernel_rfl) ?_
  refine EW.region (id := 0) (ops := Cd21.l.ops) (by kernel_rfl) ?_
  refine EL.of (EO.alloc hS 37 (.agg #[.int .i32 0, .int .i64 0, .int .i64 0, .slice none ([] : List Int).length 0, .int .i32 0, .int .i32 0, .int .i32 0, .int .i32 0, .int .i64 0, .int .i64 0, .int .u32 0, .int .i64 0]) [.int .i32 0, .int .i64 0, .int .i64 0, .slice none ([] : List Int).length 0, .int .i32 0, .int .i32 0, .int .i32 0, .int .i32 0, .int .i64 0, .int .i64 0, .int .u32 0, .int .i64 0] 2 (by kernel_rfl) (by kernel_rfl) (by kernel_rfl) (by kernel_rfl) (by first | rfl | kernel_rfl) ?_)
  intro g403 w hS
  refine EL.quick 1 [0, 2] [(0, .pointer (some ⟨g377, 0, none⟩)), (2, .pointer (some ⟨g403, 0, none⟩))] (by kernel_rfl) ?_
  refine EL.done (by kernel_rfl) ?_
  refine EQ.code ?_
  refine EW.seq (x := Cd21.r.l) (y := Cd21.r.r) (by kernel_rfl) ?_
  refine EW.seq (x := Cd21.r.l.l) (y := Cd21.r.l.r) (by kernel_rfl) ?_
  refine EW.region (id := 1) (ops := Cd21.r.l.l.ops) (by kernel_rfl) ?_
  refine EL.quick 3 [0, 2, 6] [(0, .pointer (some ⟨g377, 0, none⟩)), (2, .pointer (some ⟨g403, 0, none⟩)), (6, .pointer (some ⟨g377, 2, none⟩))] (by kernel_rfl) ?_
  refine EL.of (EO.Y (YO.loadBox hS 1 rfl 3 2 1 (.int .i64 a383) 7 (by kernel_rfl) (by kernel_rfl) (by kernel_rfl) (by kernel_rfl)) ?_)
  refine EL.quick 1 [0, 2, 8] [(0, .pointer (some ⟨g377, 0, none⟩)), (2, .pointer (some ⟨g403, 0, none⟩)), (8, .bool (decide (a383 = 0)))] (by kernel_rfl) ?_
  refine EL.done (by kernel_rfl) ?_
  refine EQ.code ?_
  refine EW.condP (o := (.tmp 8)) (x := Cd21.r.l.r.l) (y := Cd21.r.l.r.r) (a383 = 0) (by kernel_rfl) (by kernel_rfl) (fun h405 => ?_) (fun h405 => ?_)
  · rw [if_pos h405] at H
    refine EW.seq (x := Cd21.r.l.r.l.l) (y := Cd21.r.l.r.l.r) (by kernel_rfl) ?_
    refine EW.region (id := 2) (ops := Cd21.r.l.r.l.l.ops) (by kernel_rfl) ?_
    refine EL.quick 1 [2, 9] [(2, .pointer (some ⟨g403, 0, none⟩)), (9, .agg #[.int .i32 0, .int .i64 0, .int .i64 0, .slice none ([] : List Int).length 0, .int .i32 0, .int .i32 0, .int .i32 0, .int .i32 0, .int .i64 0, .int .i64 0, .int .u32 0, .int .i64 0])] (by kernel_rfl) ?_
    refine EL.of (EO.storeBox (os' := Ass.box 37 g403 [.int .i32 0, .int .i64 0, .int .i64 0, .slice none ([] : List Int).length 0, .int .i32 0, .int .i32 0, .int .i32 0, .int .i32 0, .int .i64 0, .int .i64 0, .int .u32 0, .int .i64 0] :: Ass.box 90 g377 [.slice A379 l378.length C380, .int .i64 a382, .int .i64 a383] :: Ass.own 37 kS37 A379 C380 l378 :: os) hS 0 rfl 37 0 (.agg #[.int .i32 0, .int .i64 0, .int .i64 0, .slice none ([] : List Int).length 0, .int .i32 0, .int .i32 0, .int .i32 0, .int .i32 0, .int .i64 0, .int .i64 0, .int .u32 0, .int .i64 0]) [.int .i32 0, .int .i64 0, .int .i64 0, .slice none ([] : List Int).length 0, .int .i32 0, .int .i32 0, .int .i32 0, .int .i32 0, .int .i64 0, .int .i64 0, .int .u32 0, .int .i64 0] (by kernel_rfl) (by kernel_rfl) (by kernel_rfl) (by kernel_rfl) (by kernel_rfl) (by kernel_rfl) rfl rfl ?_)
    intro w hS
    refine EL.quick 1 [2, 3] [(2, .pointer (some ⟨g403, 0, none⟩)), (3, .bool (false))] (by kernel_rfl) ?_
    refine EL.done (by kernel_rfl) ?_
    refine EQ.code ?_
    refine EW.ret (by kernel_rfl) ?_
    refine EQ.ret ?_
    have hS := St.nilR hS (Kd.int .i32)
    simp only [Option.some.injEq, Prod.mk.injEq] at H
    obtain ⟨rfl, rfl, rfl, rfl⟩ := H
    exact EQ.leave2 hS (.cell 2 37) (.tmp 3) (.agg #[.int .i32 0, .int .i64 0, .int .i64 0, .slice none ([] : List Int).length 0, .int .i32 0, .int .i32 0, .int .i32 0, .int .i32 0, .int .i64 0, .int .i64 0, .int .u32 0, .int .i64 0]) (.bool (false)) (by kernel_rfl) ⟨0, 37, g403, [.int .i32 0, .int .i64 0, .int .i64 0, .slice none ([] : List Int).length 0, .int .i32 0, .int .i32 0, .int .i32 0, .int .i32 0, .int .i64 0, .int .i64 0, .int .u32 0, .int .i64 0], 0, 12, rfl, (by kernel_rfl), (by kernel_rfl)⟩ (oneTmp (by kernel_rfl)) ⟨_, rfl, none, 0, rfl, (hS.re [2, 2] [2] rfl (sub_cons 0 rfl (sub_tail (sub_self))))⟩
  · rw [if_neg h405] at H
    refine EW.skip (by kernel_rfl) ?_
    refine EQ.code ?_
    refine EW.seq (x := Cd21.r.r.l) (y := Cd21.r.r.r) (by kernel_rfl) ?_
    refine EW.region (id := 3) (ops := Cd21.r.r.l.ops) (by kernel_rfl) ?_
    refine EL.quick 3 [0, 2, 10, 12] [(0, .pointer (some ⟨g377, 0, none⟩)), (2, .pointer (some ⟨g403, 0, none⟩)), (10, .pointer (some ⟨g377, 0, none⟩)), (12, .pointer (some ⟨g377, 2, none⟩))] (by kernel_rfl) ?_
    refine EL.of (EO.Y (YO.loadBox hS 1 rfl 3 2 1 (.int .i64 a383) 13 (by kernel_rfl) (by kernel_rfl) (by kernel_rfl) (by kernel_rfl)) ?_)
    refine EL.quick 3 [0, 2, 14, 16] [(0, .pointer (some ⟨g377, 0, none⟩)), (2, .pointer (some ⟨g403, 0, none⟩)), (14, .int .i64 (IntKind.i64.wrap (a383 - 1))), (16, .pointer (some ⟨g377, 2, none⟩))] (by kernel_rfl) ?_
    refine EL.of (EO.storeBox (os' := Ass.box 37 g403 [.int .i32 0, .int .i64 0, .int .i64 0, .slice none ([] : List Int).length 0, .int .i32 0, .int .i32 0, .int .i32 0, .int .i32 0, .int .i64 0, .int .i64 0, .int .u32 0, .int .i64 0] :: Ass.box 90 g377 [.slice A379 l378.length C380, .int .i64 a382, .int .i64 (IntKind.i64.wrap (a383 - 1))] :: Ass.own 37 kS37 A379 C380 l378 :: os) hS 1 rfl 3 2 (.int .i64 (IntKind.i64.wrap (a383 - 1))) [.slice A379 l378.length C380, .int .i64 a382, .int .i64 (IntKind.i64.wrap (a383 - 1))] (by kernel_rfl) (by kernel_rfl) (by kernel_rfl) (by kernel_rfl) (by kernel_rfl) (by kernel_rfl) rfl rfl ?_)
    intro w hS
    refine EL.done (by kernel_rfl) ?_
    refine EQ.code ?_
    refine EW.seq (x := Cd21.r.r.r.l) (y := Cd21.r.r.r.r) (by kernel_rfl) ?_
    refine EW.region (id := 4) (ops := Cd21.r.r.r.l.ops) (by kernel_rfl) ?_
    refine EL.quick 4 [2, 17, 20] [(2, .pointer (some ⟨g403, 0, none⟩)), (17, .pointer (some ⟨g377, 0, none⟩)), (20, .pointer (some ⟨g377, 2, none⟩))] (by kernel_rfl) ?_
    refine EL.of (EO.Y (YO.loadBox hS 1 rfl 3 2 1 (.int .i64 (IntKind.i64.wrap (a383 - 1))) 21 (by kernel_rfl) (by kernel_rfl) (by kernel_rfl) (by kernel_rfl)) ?_)
    have hS : St B _ (Ass.box 90 g377 [.slice A379 l378.length C380, .int .i64 a382, .int .i64 (IntKind.i64.wrap (a383 - 1))] :: Ass.own 37 kS37 A379 C380 l378 :: Ass.box 37 g403 [.int .i32 0, .int .i64 0, .int .i64 0, .slice none ([] : List Int).length 0, .int .i32 0, .int .i32 0, .int .i32 0, .int .i32 0, .int .i64 0, .int .i64 0, .int .u32 0, .int .i64 0] :: os) (rs) := hS.re [2, 2] [] rfl sub_self
    obtain ⟨t406, t407, t408, hc409, H⟩ := b3_out H
    refine EL.of (EO.callD 59 [.pointer (some ⟨g377, 0, none⟩), .int .i64 (IntKind.i64.wrap (a383 - 1))] _ 22 (by kernel_rfl) (by kernel_rfl) (by kernel_rfl) (ring_Ring_at.calls hc409 hS) ?_)
    rintro v w ⟨rfl, h410, h411, hS⟩
    obtain ⟨ad412, rfl⟩ := St.rd_some hS (Rd.own 1 37 rfl) h410 h411
    refine EL.quick 1 [2, 23] [(2, .pointer (some ⟨g403, 0, none⟩)), (23, .pointer (some ((ad412.add (t408.toNat * 12)).add 0)))] (by kernel_rfl) ?_
    refine EL.of (EO.loadPt hS kS37 ad412 C380 l378 (Rd.own 1 37 rfl) zS37 cellsS37 factsS37 partsS37 t408 h410 h411 37 12 0 12 rfl (fun b413 => .agg #[.int .i32 ((l378.getD t408.toNat zS37).f0), .int .i64 ((l378.getD t408.toNat zS37).f1), .int .i64 ((l378.getD t408.toNat zS37).f2), .slice b413.1 ((l378.getD t408.toNat zS37).f3).length b413.2, .int .i32 ((l378.getD t408.toNat zS37).f4.f0), .int .i32 ((l378.getD t408.toNat zS37).f4.f1), .int .i32 ((l378.getD t408.toNat zS37).f4.f2), .int .i32 ((l378.getD t408.toNat zS37).f4.f3), .int .i64 ((l378.getD t408.toNat zS37).f5), .int .i64 ((l378.getD t408.toNat zS37).f6), .int .u32 ((l378.getD t408.toNat zS37).f7), .int .i64 ((l378.getD t408.toNat zS37).f8)]) 24 (by kernel_rfl) (by kernel_rfl) (by kernel_rfl) (fun b413 => (by kernel_rfl)) ?_)
    intro b413 hS
    refine EL.of (EO.storeBox (os' := Ass.box 90 g377 [.slice (some ad412) l378.length C380, .int .i64 t406, .int .i64 t407] :: Ass.own 37 kS37 (some ad412) C380 l378 :: Ass.box 37 g403 [.int .i32 ((l378.getD t408.toNat zS37).f0), .int .i64 ((l378.getD t408.toNat zS37).f1), .int .i64 ((l378.getD t408.toNat zS37).f2), .slice b413.1 ((l378.getD t408.toNat zS37).f3).length b413.2, .int .i32 ((l378.getD t408.toNat zS37).f4.f0), .int .i32 ((l378.getD t408.toNat zS37).f4.f1), .int .i32 ((l378.getD t408.toNat zS37).f4.f2), .int .i32 ((l378.getD t408.toNat zS37).f4.f3), .int .i64 ((l378.getD t408.toNat zS37).f5), .int .i64 ((l378.getD t408.toNat zS37).f6), .int .u32 ((l378.getD t408.toNat zS37).f7), .int .i64 ((l378.getD t408.toNat zS37).f8)] :: os) hS 2 rfl 37 0 (.agg #[.int .i32 ((l378.getD t408.toNat zS37).f0), .int .i64 ((l378.getD t408.toNat zS37).f1), .int .i64 ((l378.getD t408.toNat zS37).f2), .slice b413.1 ((l378.getD t408.toNat zS37).f3).length b413.2, .int .i32 ((l378.getD t408.toNat zS37).f4.f0), .int .i32 ((l378.getD t408.toNat zS37).f4.f1), .int .i32 ((l378.getD t408.toNat zS37).f4.f2), .int .i32 ((l378.getD t408.toNat zS37).f4.f3), .int .i64 ((l378.getD t408.toNat zS37).f5), .int .i64 ((l378.getD t408.toNat zS37).f6), .int .u32 ((l378.getD t408.toNat zS37).f7), .int .i64 ((l378.getD t408.toNat zS37).f8)]) [.int .i32 ((l378.getD t408.toNat zS37).f0), .int .i64 ((l378.getD t408.toNat zS37).f1), .int .i64 ((l378.getD t408.toNat zS37).f2), .slice b413.1 ((l378.getD t408.toNat zS37).f3).length b413.2, .int .i32 ((l378.getD t408.toNat zS37).f4.f0), .int .i32 ((l378.getD t408.toNat zS37).f4.f1), .int .i32 ((l378.getD t408.toNat zS37).f4.f2), .int .i32 ((l378.getD t408.toNat zS37).f4.f3), .int .i64 ((l378.getD t408.toNat zS37).f5), .int .i64 ((l378.getD t408.toNat zS37).f6), .int .u32 ((l378.getD t408.toNat zS37).f7), .int .i64 ((l378.getD t408.toNat zS37).f8)] (by kernel_rfl) (by kernel_rfl) (by kernel_rfl) (by kernel_rfl) (by kernel_rfl) (by kernel_rfl) rfl rfl ?_)
    intro w hS
    refine EL.quick 1 [2, 3] [(2, .pointer (some ⟨g403, 0, none⟩)), (3, .bool (true))] (by kernel_rfl) ?_
    refine EL.done (by kernel_rfl) ?_
    refine EQ.code ?_
    refine EW.ret (by kernel_rfl) ?_
    simp only [Option.some.injEq, Prod.mk.injEq] at H
    obtain ⟨rfl, rfl, rfl, rfl⟩ := H
    exact EQ.leave2 hS (.cell 2 37) (.tmp 3) (.agg #[.int .i32 ((l378.getD t408.toNat zS37).f0), .int .i64 ((l378.getD t408.toNat zS37).f1), .int .i64 ((l378.getD t408.toNat zS37).f2), .slice b413.1 ((l378.getD t408.toNat zS37).f3).length b413.2, .int .i32 ((l378.getD t408.toNat zS37).f4.f0), .int .i32 ((l378.getD t408.toNat zS37).f4.f1), .int .i32 ((l378.getD t408.toNat zS37).f4.f2), .int .i32 ((l378.getD t408.toNat zS37).f4.f3), .int .i64 ((l378.getD t408.toNat zS37).f5), .int .i64 ((l378.getD t408.toNat zS37).f6), .int .u32 ((l378.getD t408.toNat zS37).f7), .int .i64 ((l378.getD t408.toNat zS37).f8)]) (.bool (true)) (by kernel_rfl) ⟨2, 37, g403, [.int .i32 ((l378.getD t408.toNat zS37).f0), .int .i64 ((l378.getD t408.toNat zS37).f1), .int .i64 ((l378.getD t408.toNat zS37).f2), .slice b413.1 ((l378.getD t408.toNat zS37).f3).length b413.2, .int .i32 ((l378.getD t408.toNat zS37).f4.f0), .int .i32 ((l378.getD t408.toNat zS37).f4.f1), .int .i32 ((l378.getD t408.toNat zS37).f4.f2), .int .i32 ((l378.getD t408.toNat zS37).f4.f3), .int .i64 ((l378.getD t408.toNat zS37).f5), .int .i64 ((l378.getD t408.toNat zS37).f6), .int .u32 ((l378.getD t408.toNat zS37).f7), .int .i64 ((l378.getD t408.toNat zS37).f8)], 0, 12, rfl, (by kernel_rfl), (by kernel_rfl)⟩ (oneTmp (by kernel_rfl)) ⟨_, rfl, b413.1, b413.2, rfl, (hS.re [1, 1] [2] rfl (sub_cons 0 rfl (sub_tail (sub_self))))⟩

/-! ### (*confidant/ring.Ring).Steal: function 24 -/
def ring_Ring_Steal.f (K : Nat) (l432 : List S37) (a436 : Int) (a437 : Int) : Option (Int × Int × S37 × Bool) := if a437 = 0 then (some (a436, a437, (⟨0, 0, 0, ([] : List Int), (⟨0, 0, 0, 0⟩ : S34), 0, 0, 0, 0⟩ : S37), false)) else (b3 (ring_Ring_at.f K l432 a436 a437 0) fun (t481 : Int) (t482 : Int) (t483 : Int) => (if (l432.length : Int) = 0 then none else (some (Int.tmod (IntKind.i64.wrap (t481 + 1)) (l432.length : Int), IntKind.i64.wrap (t482 - 1), (⟨(l432.getD t483.toNat zS37).f0, (l432.getD t483.toNat zS37).f1, (l432.getD t483.toNat zS37).f2, (l432.getD t483.toNat zS37).f3, (⟨(l432.getD t483.toNat zS37).f4.f0, (l432.getD t483.toNat zS37).f4.f1, (l432.getD t483.toNat zS37).f4.f2, (l432.getD t483.toNat zS37).f4.f3⟩ : S34), (l432.getD t483.toNat zS37).f5, (l432.getD t483.toNat zS37).f6, (l432.getD t483.toNat zS37).f7, (l432.getD t483.toNat zS37).f8⟩ : S37), true))))
set_option maxRecDepth 100000 in
theorem ring_Ring_Steal.calls {K : Nat} {l432 : List S37} {a436 : Int} {a437 : Int} {g431 : Nat} {A433 : Option Addr} {C434 : Nat} {x462 : Int} {x463 : Int} {x464 : S37} {x467 : Bool} {B w : World} {os : List Ass} {rs : List Ro} (H : ring_Ring_Steal.f K l432 a436 a437 = some (x462, x463, x464, x467)) (hS : St B w (Ass.box 90 g431 [.slice A433 l432.length C434, .int .i64 a436, .int .i64 a437] :: Ass.own 37 kS37 A433 C434 l432 :: os) (rs)) :
    Calls Try.prog 24 [.pointer (some ⟨g431, 0, none⟩)].toArray w (fun en w' => ∃ v, en = .returned v ∧ ∃ A465 : Option Addr, ∃ C466 : Nat, v = .tuple #[.agg #[.int .i32 x464.f0, .int .i64 x464.f1, .int .i64 x464.f2, .slice A465 x464.f3.length C466, .int .i32 x464.f4.f0, .int .i32 x464.f4.f1, .int .i32 x464.f4.f2, .int .i32 x464.f4.f3, .int .i64 x464.f5, .int .i64 x464.f6, .int .u32 x464.f7, .int .i64 x464.f8], .bool (x467)] ∧ St B w' (Ass.box 90 g431 [.slice A433 l432.length C434, .int .i64 x462, .int .i64 x463] :: Ass.own 37 kS37 A433 C434 l432 :: os) (Ro.sl (Kd.int .i32) A465 C466 x464.f3 :: rs)) := by
  unfold ring_Ring_Steal.f at H
  refine calls_of_EW (args := [.pointer (some ⟨g431, 0, none⟩)]) (c := Cd24) 38 Try.func24 (by kernel_rfl) (by kernel_rfl) (by kernel_rfl) ?_
  refine EW.seq (x := Cd24.l) (y := Cd24.r) (by kernel_rfl) ?_
  refine EW.region (id := 0) (ops := Cd24.l.ops) (by kernel_rfl) ?_
  refine EL.of (EO.alloc hS 37 (.agg #[.int .i32 0, .int .i64 0, .int .i64 0, .slice none ([] : List Int).length 0, .int .i32 0, .int .i32 0, .int .i32 0, .int .i32 0, .int .i64 0, .int .i64 0, .int .u32 0, .int .i64 0]) [.int .i32 0, .int .i64 0, .int .i64 0, .slice none ([] : List Int).length 0, .int .i32 0, .int .i32 0, .int .i32 0, .int .i32 0, .int .i64 0, .int .i64 0, .int .u32 0, .int .i64 0] 2 (by kernel_rfl) (by kernel_rfl) (by kernel_rfl) (by kernel_rfl) (by first | rfl | kernel_rfl) ?_)
  intro g469 w hS
  refine EL.quick 1 [0, 2] [(0, .pointer (some ⟨g431, 0, none⟩)), (2, .pointer (some ⟨g469, 0, none⟩))] (by kernel_rfl) ?_
  refine EL.done (by kernel_rfl) ?_
  refine EQ.code ?_
  refine EW.seq (x := Cd24.r.l) (y := Cd24.r.r) (by kernel_rfl) ?_
  refine EW.seq (x := Cd24.r.l.l) (y := Cd24.r.l.r) (by kernel_rfl) ?_
  refine EW.region (id := 1) (ops := Cd24.r.l.l.ops) (by kernel_rfl) ?_
  refine EL.quick 3 [0, 2, 7] [(0, .pointer (some ⟨g431, 0, none⟩)), (2, .pointer (some ⟨g469, 0, none⟩)), (7, .pointer (some ⟨g431, 2, none⟩))] (by kernel_rfl) ?_
  refine EL.of (EO.Y (YO.loadBox hS 1 rfl 3 2 1 (.int .i64 a437) 8 (by kernel_rfl) (by kernel_rfl) (by kernel_rfl) (by kernel_rfl)) ?_)
  refine EL.quick 1 [0, 2, 9] [(0, .pointer (some ⟨g431, 0, none⟩)), (2, .pointer (some ⟨g469, 0, none⟩)), (9, .bool (decide (a437 = 0)))] (by kernel_rfl) ?_
  refine EL.done (by kernel_rfl) ?_
  refine EQ.code ?_
  refine EW.condP (o := (.tmp 9)) (x := Cd24.r.l.r.l) (y := Cd24.r.l.r.r) (a437 = 0) (by kernel_rfl) (by kernel_rfl) (fun h471 => ?_) (fun h471 => ?_)
  · rw [if_pos h471] at H
    refine EW.seq (x := Cd24.r.l.r.l.l) (y := Cd24.r.l.r.l.r) (by kernel_rfl) ?_
    refine EW.region (id := 2) (ops := Cd24.r.l.r.l.l.ops) (by kernel_rfl) ?_
    refine EL.quick 1 [2, 10] [(2, .pointer (some ⟨g469, 0, none⟩)), (10, .agg #[.int .i32 0, .int .i64 0, .int .i64 0, .slice none ([] : List Int).length 0, .int .i32 0, .int .i32 0, .int .i32 0, .int .i32 0, .int .i64 0, .int .i64 0, .int .u32 0, .int .i64 0])] (by kernel_rfl) ?_
    refine EL.of (EO.storeBox (os' := Ass.box 37 g469 [.int .i32 0, .int .i64 0, .int .i64 0, .slice none ([] : List Int).length 0, .int .i32 0, .int .i32 0, .int .i32 0, .int .i32 0, .int .i64 0, .int .i64 0, .int .u32 0, .int .i64 0] :: Ass.box 90 g431 [.slice A433 l432.length C434, .int .i64 a436, .int .i64 a437] :: Ass.own 37 kS37 A433 C434 l432 :: os) hS 0 rfl 37 0 (.agg #[.int .i32 0, .int .i64 0, .int .i64 0, .slice none ([] : List Int).length 0, .int .i32 0, .int .i32 0, .int .i32 0, .int .i32 0, .int .i64 0, .int .i64 0, .int .u32 0, .int .i64 0]) [.int .i32 0, .int .i64 0, .int .i64 0, .slice none ([] : List Int).length 0, .int .i32 0, .int .i32 0, .int .i32 0, .int .i32 0, .int .i64 0, .int .i64 0, .int .u32 0, .int .i64 0] (by kernel_rfl) (by kernel_rfl) (by kernel_rfl) (by kernel_rfl) (by kernel_rfl) (by kernel_rfl) rfl rfl ?_)
    intro w hS
    refine EL.quick 1 [2, 3] [(2, .pointer (some ⟨g469, 0, none⟩)), (3, .bool (false))] (by kernel_rfl) ?_
    refine EL.done (by kernel_rfl) ?_
    refine EQ.code ?_
    refine EW.ret (by kernel_rfl) ?_
    refine EQ.ret ?_
    have hS := St.nilR hS (Kd.int .i32)
    simp only [Option.some.injEq, Prod.mk.injEq] at H
    obtain ⟨rfl, rfl, rfl, rfl⟩ := H
    exact EQ.leave2 hS (.cell 2 37) (.tmp 3) (.agg #[.int .i32 0, .int .i64 0, .int .i64 0, .slice none ([] : List Int).length 0, .int .i32 0, .int .i32 0, .int .i32 0, .int .i32 0, .int .i64 0, .int .i64 0, .int .u32 0, .int .i64 0]) (.bool (false)) (by kernel_rfl) ⟨0, 37, g469, [.int .i32 0, .int .i64 0, .int .i64 0, .slice none ([] : List Int).length 0, .int .i32 0, .int .i32 0, .int .i32 0, .int .i32 0, .int .i64 0, .int .i64 0, .int .u32 0, .int .i64 0], 0, 12, rfl, (by kernel_rfl), (by kernel_rfl)⟩ (oneTmp (by kernel_rfl)) ⟨_, rfl, none, 0, rfl, (hS.re [2, 2] [2] rfl (sub_cons 0 rfl (sub_tail (sub_self))))⟩
  · rw [if_neg h471] at H
    refine EW.skip (by kernel_rfl) ?_
    refine EQ.code ?_
    refine EW.seq (x := Cd24.r.r.l) (y := Cd24.r.r.r) (by kernel_rfl) ?_
    refine EW.region (id := 3) (ops := Cd24.r.r.l.ops) (by kernel_rfl) ?_
    refine EL.quick 1 [0, 2, 11] [(0, .pointer (some ⟨g431, 0, none⟩)), (2, .pointer (some ⟨g469, 0, none⟩)), (11, .pointer (some ⟨g431, 0, none⟩))] (by kernel_rfl) ?_
    have hS : St B _ (Ass.box 90 g431 [.slice A433 l432.length C434, .int .i64 a436, .int .i64 a437] :: Ass.own 37 kS37 A433 C434 l432 :: Ass.box 37 g469 [.int .i32 0, .int .i64 0, .int .i64 0, .slice none ([] : List Int).length 0, .int .i32 0, .int .i32 0, .int .i32 0, .int .i32 0, .int .i64 0, .int .i64 0, .int .u32 0, .int .i64 0] :: os) (rs) := hS.re [2, 2] [] rfl sub_self
    obtain ⟨t481, t482, t483, hc484, H⟩ := b3_out H
    refine EL.of (EO.callD 59 [.pointer (some ⟨g431, 0, none⟩), .int .i64 0] _ 12 (by kernel_rfl) (by kernel_rfl) (by kernel_rfl) (ring_Ring_at.calls hc484 hS) ?_)
    rintro v w ⟨rfl, h485, h486, hS⟩
    obtain ⟨ad487, rfl⟩ := St.rd_some hS (Rd.own 1 37 rfl) h485 h486
    refine EL.quick 1 [0, 2, 13] [(0, .pointer (some ⟨g431, 0, none⟩)), (2, .pointer (some ⟨g469, 0, none⟩)), (13, .pointer (some ((ad487.add (t483.toNat * 12)).add 0)))] (by kernel_rfl) ?_
    refine EL.of (EO.loadPt hS kS37 ad487 C434 l432 (Rd.own 1 37 rfl) zS37 cellsS37 factsS37 partsS37 t483 h485 h486 37 12 0 12 rfl (fun b488 => .agg #[.int .i32 ((l432.getD t483.toNat zS37).f0), .int .i64 ((l432.getD t483.toNat zS37).f1), .int .i64 ((l432.getD t483.toNat zS37).f2), .slice b488.1 ((l432.getD t483.toNat zS37).f3).length b488.2, .int .i32 ((l432.getD t483.toNat zS37).f4.f0), .int .i32 ((l432.getD t483.toNat zS37).f4.f1), .int .i32 ((l432.getD t483.toNat zS37).f4.f2), .int .i32 ((l432.getD t483.toNat zS37).f4.f3), .int .i64 ((l432.getD t483.toNat zS37).f5), .int .i64 ((l432.getD t483.toNat zS37).f6), .int .u32 ((l432.getD t483.toNat zS37).f7), .int .i64 ((l432.getD t483.toNat zS37).f8)]) 14 (by kernel_rfl) (by kernel_rfl) (by kernel_rfl) (fun b488 => (by kernel_rfl)) ?_)
    intro b488 hS
    refine EL.of (EO.alloc hS 37 (.agg #[.int .i32 0, .int .i64 0, .int .i64 0, .slice none ([] : List Int).length 0, .int .i32 0, .int .i32 0, .int .i32 0, .int .i32 0, .int .i64 0, .int .i64 0, .int .u32 0, .int .i64 0]) [.int .i32 0, .int .i64 0, .int .i64 0, .slice none ([] : List Int).length 0, .int .i32 0, .int .i32 0, .int .i32 0, .int .i32 0, .int .i64 0, .int .i64 0, .int .u32 0, .int .i64 0] 4 (by kernel_rfl) (by kernel_rfl) (by kernel_rfl) (by kernel_rfl) (by first | rfl | kernel_rfl) ?_)
    intro g489 w hS
    refine EL.of (EO.storeBox (os' := Ass.box 37 g489 [.int .i32 ((l432.getD t483.toNat zS37).f0), .int .i64 ((l432.getD t483.toNat zS37).f1), .int .i64 ((l432.getD t483.toNat zS37).f2), .slice b488.1 ((l432.getD t483.toNat zS37).f3).length b488.2, .int .i32 ((l432.getD t483.toNat zS37).f4.f0), .int .i32 ((l432.getD t483.toNat zS37).f4.f1), .int .i32 ((l432.getD t483.toNat zS37).f4.f2), .int .i32 ((l432.getD t483.toNat zS37).f4.f3), .int .i64 ((l432.getD t483.toNat zS37).f5), .int .i64 ((l432.getD t483.toNat zS37).f6), .int .u32 ((l432.getD t483.toNat zS37).f7), .int .i64 ((l432.getD t483.toNat zS37).f8)] :: Ass.box 90 g431 [.slice (some ad487) l432.length C434, .int .i64 t481, .int .i64 t482] :: Ass.own 37 kS37 (some ad487) C434 l432 :: Ass.box 37 g469 [.int .i32 0, .int .i64 0, .int .i64 0, .slice none ([] : List Int).length 0, .int .i32 0, .int .i32 0, .int .i32 0, .int .i32 0, .int .i64 0, .int .i64 0, .int .u32 0, .int .i64 0] :: os) hS 0 rfl 37 0 (.agg #[.int .i32 ((l432.getD t483.toNat zS37).f0), .int .i64 ((l432.getD t483.toNat zS37).f1), .int .i64 ((l432.getD t483.toNat zS37).f2), .slice b488.1 ((l432.getD t483.toNat zS37).f3).length b488.2, .int .i32 ((l432.getD t483.toNat zS37).f4.f0), .int .i32 ((l432.getD t483.toNat zS37).f4.f1), .int .i32 ((l432.getD t483.toNat zS37).f4.f2), .int .i32 ((l432.getD t483.toNat zS37).f4.f3), .int .i64 ((l432.getD t483.toNat zS37).f5), .int .i64 ((l432.getD t483.toNat zS37).f6), .int .u32 ((l432.getD t483.toNat zS37).f7), .int .i64 ((l432.getD t483.toNat zS37).f8)]) [.int .i32 ((l432.getD t483.toNat zS37).f0), .int .i64 ((l432.getD t483.toNat zS37).f1), .int .i64 ((l432.getD t483.toNat zS37).f2), .slice b488.1 ((l432.getD t483.toNat zS37).f3).length b488.2, .int .i32 ((l432.getD t483.toNat zS37).f4.f0), .int .i32 ((l432.getD t483.toNat zS37).f4.f1), .int .i32 ((l432.getD t483.toNat zS37).f4.f2), .int .i32 ((l432.getD t483.toNat zS37).f4.f3), .int .i64 ((l432.getD t483.toNat zS37).f5), .int .i64 ((l432.getD t483.toNat zS37).f6), .int .u32 ((l432.getD t483.toNat zS37).f7), .int .i64 ((l432.getD t483.toNat zS37).f8)] (by kernel_rfl) (by kernel_rfl) (by kernel_rfl) (by kernel_rfl) (by kernel_rfl) (by kernel_rfl) rfl rfl ?_)
    intro w hS
    refine EL.done (by kernel_rfl) ?_
    refine EQ.code ?_
    refine EW.seq (x := Cd24.r.r.r.l) (y := Cd24.r.r.r.r) (by kernel_rfl) ?_
    obtain ⟨h491, H⟩ := ite_out H
    refine EW.meet (id := 4) (ops := Cd24.r.r.r.l.ops) (fun a w => Sat 38 [(2, .pointer (some ⟨g469, 0, none⟩)), (4, .pointer (some ⟨g489, 0, none⟩))] a ∧ St B w (Ass.box 37 g489 [.int .i32 ((l432.getD t483.toNat zS37).f0), .int .i64 ((l432.getD t483.toNat zS37).f1), .int .i64 ((l432.getD t483.toNat zS37).f2), .slice b488.1 ((l432.getD t483.toNat zS37).f3).length b488.2, .int .i32 ((l432.getD t483.toNat zS37).f4.f0), .int .i32 ((l432.getD t483.toNat zS37).f4.f1), .int .i32 ((l432.getD t483.toNat zS37).f4.f2), .int .i32 ((l432.getD t483.toNat zS37).f4.f3), .int .i64 ((l432.getD t483.toNat zS37).f5), .int .i64 ((l432.getD t483.toNat zS37).f6), .int .u32 ((l432.getD t483.toNat zS37).f7), .int .i64 ((l432.getD t483.toNat zS37).f8)] :: Ass.box 90 g431 [.slice (some ad487) l432.length C434, .int .i64 (Int.tmod (IntKind.i64.wrap (t481 + 1)) (l432.length : Int)), .int .i64 (IntKind.i64.wrap (t482 - 1))] :: Ass.own 37 kS37 (some ad487) C434 l432 :: Ass.box 37 g469 [.int .i32 0, .int .i64 0, .int .i64 0, .slice none ([] : List Int).length 0, .int .i32 0, .int .i32 0, .int .i32 0, .int .i32 0, .int .i64 0, .int .i64 0, .int .u32 0, .int .i64 0] :: os) (Ro.sl (Kd.int .i32) b488.1 b488.2 ((l432.getD t483.toNat zS37).f3) :: rs)) (by kernel_rfl) ?_ (fun a w hI => ?_)
    · have hS := hS.drew
      refine EW.draw (B := B) (id := 4) (ops := Cd24.r.r.r.l.ops) [Ass.box 37 g489 [.int .i32 ((l432.getD t483.toNat zS37).f0), .int .i64 ((l432.getD t483.toNat zS37).f1), .int .i64 ((l432.getD t483.toNat zS37).f2), .slice b488.1 ((l432.getD t483.toNat zS37).f3).length b488.2, .int .i32 ((l432.getD t483.toNat zS37).f4.f0), .int .i32 ((l432.getD t483.toNat zS37).f4.f1), .int .i32 ((l432.getD t483.toNat zS37).f4.f2), .int .i32 ((l432.getD t483.toNat zS37).f4.f3), .int .i64 ((l432.getD t483.toNat zS37).f5), .int .i64 ((l432.getD t483.toNat zS37).f6), .int .u32 ((l432.getD t483.toNat zS37).f7), .int .i64 ((l432.getD t483.toNat zS37).f8)], Ass.own 37 kS37 (some ad487) C434 l432, Ass.box 37 g469 [.int .i32 0, .int .i64 0, .int .i64 0, .slice none ([] : List Int).length 0, .int .i32 0, .int .i32 0, .int .i32 0, .int .i32 0, .int .i64 0, .int .i64 0, .int .u32 0, .int .i64 0]] [Ro.sl (Kd.int .i32) b488.1 b488.2 ((l432.getD t483.toNat zS37).f3)] (by kernel_rfl) (by kernel_rfl) ?_
      have hN : Region.noSelect Cd24.r.r.r.l.ops = true := (by kernel_rfl)
      have hF : freeAll Cd24.r.r.r.l.ops = true := (by kernel_rfl)
      have hC : Core B [Ass.box 37 g489 [.int .i32 ((l432.getD t483.toNat zS37).f0), .int .i64 ((l432.getD t483.toNat zS37).f1), .int .i64 ((l432.getD t483.toNat zS37).f2), .slice b488.1 ((l432.getD t483.toNat zS37).f3).length b488.2, .int .i32 ((l432.getD t483.toNat zS37).f4.f0), .int .i32 ((l432.getD t483.toNat zS37).f4.f1), .int .i32 ((l432.getD t483.toNat zS37).f4.f2), .int .i32 ((l432.getD t483.toNat zS37).f4.f3), .int .i64 ((l432.getD t483.toNat zS37).f5), .int .i64 ((l432.getD t483.toNat zS37).f6), .int .u32 ((l432.getD t483.toNat zS37).f7), .int .i64 ((l432.getD t483.toNat zS37).f8)], Ass.own 37 kS37 (some ad487) C434 l432, Ass.box 37 g469 [.int .i32 0, .int .i64 0, .int .i64 0, .slice none ([] : List Int).length 0, .int .i32 0, .int .i32 0, .int .i32 0, .int .i32 0, .int .i64 0, .int .i64 0, .int .u32 0, .int .i64 0]] [Ro.sl (Kd.int .i32) b488.1 b488.2 ((l432.getD t483.toNat zS37).f3)] _ := ⟨_, _, hS.re [3, 3, 2] [] rfl sub_self⟩
      refine ED.quick hN hF hC [0, 1, 2, 3, 4, 7, 8, 9, 13, 14, 15] [2, 4, 15, 16, 19, 24, 30] 13 [(2, .pointer (some ⟨g469, 0, none⟩)), (4, .pointer (some ⟨g489, 0, none⟩)), (15, .pointer (some ⟨g431, 0, none⟩)), (16, .pointer (some ⟨g431, 0, none⟩)), (19, .pointer (some ⟨g431, 1, none⟩)), (24, .pointer (some ⟨g431, 0, none⟩)), (30, .pointer (some ⟨g431, 2, none⟩))] #[true, true, true, true, true, false, false, true, true, true, false, false, false, true, true, true, false, false, false, false, false, false, false, false] (by kernel_rfl) (by kernel_rfl) ?_
      refine ED.many 5 [10, 16] 12 (by kernel_rfl) (by kernel_rfl) (Each.cons ?_ (Each.cons ?_ (Each.cons ?_ Each.nil)))
      · refine EO.Y (YO.loadBox hS 1 rfl 3 1 1 (.int .i64 t481) 20 (by kernel_rfl) (by kernel_rfl) (by kernel_rfl) (by kernel_rfl)) ?_
        have hC : Core B [Ass.box 37 g489 [.int .i32 ((l432.getD t483.toNat zS37).f0), .int .i64 ((l432.getD t483.toNat zS37).f1), .int .i64 ((l432.getD t483.toNat zS37).f2), .slice b488.1 ((l432.getD t483.toNat zS37).f3).length b488.2, .int .i32 ((l432.getD t483.toNat zS37).f4.f0), .int .i32 ((l432.getD t483.toNat zS37).f4.f1), .int .i32 ((l432.getD t483.toNat zS37).f4.f2), .int .i32 ((l432.getD t483.toNat zS37).f4.f3), .int .i64 ((l432.getD t483.toNat zS37).f5), .int .i64 ((l432.getD t483.toNat zS37).f6), .int .u32 ((l432.getD t483.toNat zS37).f7), .int .i64 ((l432.getD t483.toNat zS37).f8)], Ass.own 37 kS37 (some ad487) C434 l432, Ass.box 37 g469 [.int .i32 0, .int .i64 0, .int .i64 0, .slice none ([] : List Int).length 0, .int .i32 0, .int .i32 0, .int .i32 0, .int .i32 0, .int .i64 0, .int .i64 0, .int .u32 0, .int .i64 0]] [Ro.sl (Kd.int .i32) b488.1 b488.2 ((l432.getD t483.toNat zS37).f3)] _ := ⟨_, _, hS.re [3, 3, 2] [] rfl sub_self⟩
        refine ⟨hC, ?_⟩
        refine ED.at' #[true, true, true, true, true, true, false, true, true, true, false, false, false, true, true, true, false, false, false, false, false, false, false, false] (by kernel_rfl) ?_
        refine ED.quick hN hF hC [6] [2, 4, 15, 16, 21, 24, 30] 11 [(2, .pointer (some ⟨g469, 0, none⟩)), (4, .pointer (some ⟨g489, 0, none⟩)), (15, .pointer (some ⟨g431, 0, none⟩)), (16, .pointer (some ⟨g431, 0, none⟩)), (21, .int .i64 (IntKind.i64.wrap (t481 + 1))), (24, .pointer (some ⟨g431, 0, none⟩)), (30, .pointer (some ⟨g431, 2, none⟩))] #[true, true, true, true, true, true, true, true, true, true, false, false, false, true, true, true, false, false, false, false, false, false, false, false] (by kernel_rfl) (by kernel_rfl) ?_
        refine ED.two 10 16 10 (by kernel_rfl) (by kernel_rfl) ?_ ?_
        · refine EO.Y (YO.loadBox hS 1 rfl 30 0 1 (.slice (some ad487) l432.length C434) 25 (by kernel_rfl) (by kernel_rfl) (by kernel_rfl) (by kernel_rfl)) ?_
          have hC : Core B [Ass.box 37 g489 [.int .i32 ((l432.getD t483.toNat zS37).f0), .int .i64 ((l432.getD t483.toNat zS37).f1), .int .i64 ((l432.getD t483.toNat zS37).f2), .slice b488.1 ((l432.getD t483.toNat zS37).f3).length b488.2, .int .i32 ((l432.getD t483.toNat zS37).f4.f0), .int .i32 ((l432.getD t483.toNat zS37).f4.f1), .int .i32 ((l432.getD t483.toNat zS37).f4.f2), .int .i32 ((l432.getD t483.toNat zS37).f4.f3), .int .i64 ((l432.getD t483.toNat zS37).f5), .int .i64 ((l432.getD t483.toNat zS37).f6), .int .u32 ((l432.getD t483.toNat zS37).f7), .int .i64 ((l432.getD t483.toNat zS37).f8)], Ass.own 37 kS37 (some ad487) C434 l432, Ass.box 37 g469 [.int .i32 0, .int .i64 0, .int .i64 0, .slice none ([] : List Int).length 0, .int .i32 0, .int .i32 0, .int .i32 0, .int .i32 0, .int .i64 0, .int .i64 0, .int .u32 0, .int .i64 0]] [Ro.sl (Kd.int .i32) b488.1 b488.2 ((l432.getD t483.toNat zS37).f3)] _ := ⟨_, _, hS.re [3, 3, 2] [] rfl sub_self⟩
          refine ⟨hC, ?_⟩
          refine ED.at' #[true, true, true, true, true, true, true, true, true, true, true, false, false, true, true, true, false, false, false, false, false, false, false, false] (by kernel_rfl) ?_
          refine ED.quick hN hF hC [11] [2, 4, 15, 16, 21, 26, 30] 9 [(2, .pointer (some ⟨g469, 0, none⟩)), (4, .pointer (some ⟨g489, 0, none⟩)), (15, .pointer (some ⟨g431, 0, none⟩)), (16, .pointer (some ⟨g431, 0, none⟩)), (21, .int .i64 (IntKind.i64.wrap (t481 + 1))), (26, .int .i64 (l432.length : Int)), (30, .pointer (some ⟨g431, 2, none⟩))] #[true, true, true, true, true, true, true, true, true, true, true, true, false, true, true, true, false, false, false, false, false, false, false, false] (by kernel_rfl) (by kernel_rfl) ?_
          refine ED.Y hN hF hC 12 8 #[true, true, true, true, true, true, true, true, true, true, true, true, true, true, true, true, false, false, false, false, false, false, false, false] (by kernel_rfl) (by kernel_rfl) rfl (fun _ _ _ hS => YO.div .rem .i64 (IntKind.i64.wrap (t481 + 1)) (l432.length : Int) (Int.tmod (IntKind.i64.wrap (t481 + 1)) (l432.length : Int)) 27 (by kernel_rfl) (by kernel_rfl) (by kernel_rfl) h491 (by first | exact .inl ⟨rfl, rfl⟩ | exact .inr ⟨rfl, rfl⟩)) ?_
          refine ED.one 16 7 #[true, true, true, true, true, true, true, true, true, true, true, true, true, true, true, true, true, false, false, false, false, false, false, false] (by kernel_rfl) (by kernel_rfl) (by kernel_rfl) (EO.Y (YO.loadBox hS 1 rfl 3 2 1 (.int .i64 t482) 31 (by kernel_rfl) (by kernel_rfl) (by kernel_rfl) (by kernel_rfl)) ?_)
          have hC : Core B [Ass.box 37 g489 [.int .i32 ((l432.getD t483.toNat zS37).f0), .int .i64 ((l432.getD t483.toNat zS37).f1), .int .i64 ((l432.getD t483.toNat zS37).f2), .slice b488.1 ((l432.getD t483.toNat zS37).f3).length b488.2, .int .i32 ((l432.getD t483.toNat zS37).f4.f0), .int .i32 ((l432.getD t483.toNat zS37).f4.f1), .int .i32 ((l432.getD t483.toNat zS37).f4.f2), .int .i32 ((l432.getD t483.toNat zS37).f4.f3), .int .i64 ((l432.getD t483.toNat zS37).f5), .int .i64 ((l432.getD t483.toNat zS37).f6), .int .u32 ((l432.getD t483.toNat zS37).f7), .int .i64 ((l432.getD t483.toNat zS37).f8)], Ass.own 37 kS37 (some ad487) C434 l432, Ass.box 37 g469 [.int .i32 0, .int .i64 0, .int .i64 0, .slice none ([] : List Int).length 0, .int .i32 0, .int .i32 0, .int .i32 0, .int .i32 0, .int .i64 0, .int .i64 0, .int .u32 0, .int .i64 0]] [Ro.sl (Kd.int .i32) b488.1 b488.2 ((l432.getD t483.toNat zS37).f3)] _ := ⟨_, _, hS.re [3, 3, 2] [] rfl sub_self⟩
          refine ⟨hC, ?_⟩
          refine ED.quick hN hF hC [17, 18, 19] [2, 4, 16, 27, 32, 34] 4 [(2, .pointer (some ⟨g469, 0, none⟩)), (4, .pointer (some ⟨g489, 0, none⟩)), (16, .pointer (some ⟨g431, 0, none⟩)), (27, .int .i64 (Int.tmod (IntKind.i64.wrap (t481 + 1)) (l432.length : Int))), (32, .int .i64 (IntKind.i64.wrap (t482 - 1))), (34, .pointer (some ⟨g431, 1, none⟩))] #[true, true, true, true, true, true, true, true, true, true, true, true, true, true, true, true, true, true, true, true, false, false, false, false] (by kernel_rfl) (by kernel_rfl) ?_
          refine ED.one 20 3 #[true, true, true, true, true, true, true, true, true, true, true, true, true, true, true, true, true, true, true, true, true, false, false, false] (by kernel_rfl) (by kernel_rfl) (by kernel_rfl) (EO.storeBox (os' := Ass.box 37 g489 [.int .i32 ((l432.getD t483.toNat zS37).f0), .int .i64 ((l432.getD t483.toNat zS37).f1), .int .i64 ((l432.getD t483.toNat zS37).f2), .slice b488.1 ((l432.getD t483.toNat zS37).f3).length b488.2, .int .i32 ((l432.getD t483.toNat zS37).f4.f0), .int .i32 ((l432.getD t483.toNat zS37).f4.f1), .int .i32 ((l432.getD t483.toNat zS37).f4.f2), .int .i32 ((l432.getD t483.toNat zS37).f4.f3), .int .i64 ((l432.getD t483.toNat zS37).f5), .int .i64 ((l432.getD t483.toNat zS37).f6), .int .u32 ((l432.getD t483.toNat zS37).f7), .int .i64 ((l432.getD t483.toNat zS37).f8)] :: Ass.box 90 g431 [.slice (some ad487) l432.length C434, .int .i64 (Int.tmod (IntKind.i64.wrap (t481 + 1)) (l432.length : Int)), .int .i64 t482] :: Ass.own 37 kS37 (some ad487) C434 l432 :: Ass.box 37 g469 [.int .i32 0, .int .i64 0, .int .i64 0, .slice none ([] : List Int).length 0, .int .i32 0, .int .i32 0, .int .i32 0, .int .i32 0, .int .i64 0, .int .i64 0, .int .u32 0, .int .i64 0] :: os) hS 1 rfl 3 1 (.int .i64 (Int.tmod (IntKind.i64.wrap (t481 + 1)) (l432.length : Int))) [.slice (some ad487) l432.length C434, .int .i64 (Int.tmod (IntKind.i64.wrap (t481 + 1)) (l432.length : Int)), .int .i64 t482] (by kernel_rfl) (by kernel_rfl) (by kernel_rfl) (by kernel_rfl) (by kernel_rfl) (by kernel_rfl) rfl rfl ?_)
          intro w hS
          have hC : Core B [Ass.box 37 g489 [.int .i32 ((l432.getD t483.toNat zS37).f0), .int .i64 ((l432.getD t483.toNat zS37).f1), .int .i64 ((l432.getD t483.toNat zS37).f2), .slice b488.1 ((l432.getD t483.toNat zS37).f3).length b488.2, .int .i32 ((l432.getD t483.toNat zS37).f4.f0), .int .i32 ((l432.getD t483.toNat zS37).f4.f1), .int .i32 ((l432.getD t483.toNat zS37).f4.f2), .int .i32 ((l432.getD t483.toNat zS37).f4.f3), .int .i64 ((l432.getD t483.toNat zS37).f5), .int .i64 ((l432.getD t483.toNat zS37).f6), .int .u32 ((l432.getD t483.toNat zS37).f7), .int .i64 ((l432.getD t483.toNat zS37).f8)], Ass.own 37 kS37 (some ad487) C434 l432, Ass.box 37 g469 [.int .i32 0, .int .i64 0, .int .i64 0, .slice none ([] : List Int).length 0, .int .i32 0, .int .i32 0, .int .i32 0, .int .i32 0, .int .i64 0, .int .i64 0, .int .u32 0, .int .i64 0]] [Ro.sl (Kd.int .i32) b488.1 b488.2 ((l432.getD t483.toNat zS37).f3)] _ := ⟨_, _, hS.re [3, 3, 2] [] rfl sub_self⟩
          refine ⟨hC, ?_⟩
          refine ED.quick hN hF hC [21, 22] [2, 4, 32, 36] 1 [(2, .pointer (some ⟨g469, 0, none⟩)), (4, .pointer (some ⟨g489, 0, none⟩)), (32, .int .i64 (IntKind.i64.wrap (t482 - 1))), (36, .pointer (some ⟨g431, 2, none⟩))] #[true, true, true, true, true, true, true, true, true, true, true, true, true, true, true, true, true, true, true, true, true, true, true, false] (by kernel_rfl) (by kernel_rfl) ?_
          refine ED.one 23 0 #[true, true, true, true, true, true, true, true, true, true, true, true, true, true, true, true, true, true, true, true, true, true, true, true] (by kernel_rfl) (by kernel_rfl) (by kernel_rfl) (EO.storeBox (os' := Ass.box 37 g489 [.int .i32 ((l432.getD t483.toNat zS37).f0), .int .i64 ((l432.getD t483.toNat zS37).f1), .int .i64 ((l432.getD t483.toNat zS37).f2), .slice b488.1 ((l432.getD t483.toNat zS37).f3).length b488.2, .int .i32 ((l432.getD t483.toNat zS37).f4.f0), .int .i32 ((l432.getD t483.toNat zS37).f4.f1), .int .i32 ((l432.getD t483.toNat zS37).f4.f2), .int .i32 ((l432.getD t483.toNat zS37).f4.f3), .int .i64 ((l432.getD t483.toNat zS37).f5), .int .i64 ((l432.getD t483.toNat zS37).f6), .int .u32 ((l432.getD t483.toNat zS37).f7), .int .i64 ((l432.getD t483.toNat zS37).f8)] :: Ass.box 90 g431 [.slice (some ad487) l432.length C434, .int .i64 (Int.tmod (IntKind.i64.wrap (t481 + 1)) (l432.length : Int)), .int .i64 (IntKind.i64.wrap (t482 - 1))] :: Ass.own 37 kS37 (some ad487) C434 l432 :: Ass.box 37 g469 [.int .i32 0, .int .i64 0, .int .i64 0, .slice none ([] : List Int).length 0, .int .i32 0, .int .i32 0, .int .i32 0, .int .i32 0, .int .i64 0, .int .i64 0, .int .u32 0, .int .i64 0] :: os) hS 1 rfl 3 2 (.int .i64 (IntKind.i64.wrap (t482 - 1))) [.slice (some ad487) l432.length C434, .int .i64 (Int.tmod (IntKind.i64.wrap (t481 + 1)) (l432.length : Int)), .int .i64 (IntKind.i64.wrap (t482 - 1))] (by kernel_rfl) (by kernel_rfl) (by kernel_rfl) (by kernel_rfl) (by kernel_rfl) (by kernel_rfl) rfl rfl ?_)
          intro w hS
          have hC : Core B [Ass.box 37 g489 [.int .i32 ((l432.getD t483.toNat zS37).f0), .int .i64 ((l432.getD t483.toNat zS37).f1), .int .i64 ((l432.getD t483.toNat zS37).f2), .slice b488.1 ((l432.getD t483.toNat zS37).f3).length b488.2, .int .i32 ((l432.getD t483.toNat zS37).f4.f0), .int .i32 ((l432.getD t483.toNat zS37).f4.f1), .int .i32 ((l432.getD t483.toNat zS37).f4.f2), .int .i32 ((l432.getD t483.toNat zS37).f4.f3), .int .i64 ((l432.getD t483.toNat zS37).f5), .int .i64 ((l432.getD t483.toNat zS37).f6), .int .u32 ((l432.getD t483.toNat zS37).f7), .int .i64 ((l432.getD t483.toNat zS37).f8)], Ass.own 37 kS37 (some ad487) C434 l432, Ass.box 37 g469 [.int .i32 0, .int .i64 0, .int .i64 0, .slice none ([] : List Int).length 0, .int .i32 0, .int .i32 0, .int .i32 0, .int .i32 0, .int .i64 0, .int .i64 0, .int .u32 0, .int .i64 0]] [Ro.sl (Kd.int .i32) b488.1 b488.2 ((l432.getD t483.toNat zS37).f3)] _ := ⟨_, _, hS.re [3, 3, 2] [] rfl sub_self⟩
          refine ⟨hC, ?_⟩
          refine ED.done (by kernel_rfl) ?_
          refine EQ.to ?_
          refine EQ.keep [2, 4] [(2, .pointer (some ⟨g469, 0, none⟩)), (4, .pointer (some ⟨g489, 0, none⟩))] (by kernel_rfl) ?_
          exact fun a ha => ⟨ha, (hS.re [3, 3, 3, 3] [] rfl (sub_cons 0 rfl (sub_tail (sub_self))))⟩
        · refine EO.Y (YO.loadBox hS 1 rfl 3 2 1 (.int .i64 t482) 31 (by kernel_rfl) (by kernel_rfl) (by kernel_rfl) (by kernel_rfl)) ?_
          have hC : Core B [Ass.box 37 g489 [.int .i32 ((l432.getD t483.toNat zS37).f0), .int .i64 ((l432.getD t483.toNat zS37).f1), .int .i64 ((l432.getD t483.toNat zS37).f2), .slice b488.1 ((l432.getD t483.toNat zS37).f3).length b488.2, .int .i32 ((l432.getD t483.toNat zS37).f4.f0), .int .i32 ((l432.getD t483.toNat zS37).f4.f1), .int .i32 ((l432.getD t483.toNat zS37).f4.f2), .int .i32 ((l432.getD t483.toNat zS37).f4.f3), .int .i64 ((l432.getD t483.toNat zS37).f5), .int .i64 ((l432.getD t483.toNat zS37).f6), .int .u32 ((l432.getD t483.toNat zS37).f7), .int .i64 ((l432.getD t483.toNat zS37).f8)], Ass.own 37 kS37 (some ad487) C434 l432, Ass.box 37 g469 [.int .i32 0, .int .i64 0, .int .i64 0, .slice none ([] : List Int).length 0, .int .i32 0, .int .i32 0, .int .i32 0, .int .i32 0, .int .i64 0, .int .i64 0, .int .u32 0, .int .i64 0]] [Ro.sl (Kd.int .i32) b488.1 b488.2 ((l432.getD t483.toNat zS37).f3)] _ := ⟨_, _, hS.re [3, 3, 2] [] rfl sub_self⟩
          refine ⟨hC, ?_⟩
          refine ED.at' #[true, true, true, true, true, true, true, true, true, true, false, false, false, true, true, true, true, false, false, false, false, false, false, false] (by kernel_rfl) ?_
          refine ED.quick hN hF hC [17] [2, 4, 15, 16, 21, 24, 32] 9 [(2, .pointer (some ⟨g469, 0, none⟩)), (4, .pointer (some ⟨g489, 0, none⟩)), (15, .pointer (some ⟨g431, 0, none⟩)), (16, .pointer (some ⟨g431, 0, none⟩)), (21, .int .i64 (IntKind.i64.wrap (t481 + 1))), (24, .pointer (some ⟨g431, 0, none⟩)), (32, .int .i64 (IntKind.i64.wrap (t482 - 1)))] #[true, true, true, true, true, true, true, true, true, true, false, false, false, true, true, true, true, true, false, false, false, false, false, false] (by kernel_rfl) (by kernel_rfl) ?_
          refine ED.one 10 8 #[true, true, true, true, true, true, true, true, true, true, true, false, false, true, true, true, true, true, false, false, false, false, false, false] (by kernel_rfl) (by kernel_rfl) (by kernel_rfl) (EO.Y (YO.loadBox hS 1 rfl 30 0 1 (.slice (some ad487) l432.length C434) 25 (by kernel_rfl) (by kernel_rfl) (by kernel_rfl) (by kernel_rfl)) ?_)
          have hC : Core B [Ass.box 37 g489 [.int .i32 ((l432.getD t483.toNat zS37).f0), .int .i64 ((l432.getD t483.toNat zS37).f1), .int .i64 ((l432.getD t483.toNat zS37).f2), .slice b488.1 ((l432.getD t483.toNat zS37).f3).length b488.2, .int .i32 ((l432.getD t483.toNat zS37).f4.f0), .int .i32 ((l432.getD t483.toNat zS37).f4.f1), .int .i32 ((l432.getD t483.toNat zS37).f4.f2), .int .i32 ((l432.getD t483.toNat zS37).f4.f3), .int .i64 ((l432.getD t483.toNat zS37).f5), .int .i64 ((l432.getD t483.toNat zS37).f6), .int .u32 ((l432.getD t483.toNat zS37).f7), .int .i64 ((l432.getD t483.toNat zS37).f8)], Ass.own 37 kS37 (some ad487) C434 l432, Ass.box 37 g469 [.int .i32 0, .int .i64 0, .int .i64 0, .slice none ([] : List Int).length 0, .int .i32 0, .int .i32 0, .int .i32 0, .int .i32 0, .int .i64 0, .int .i64 0, .int .u32 0, .int .i64 0]] [Ro.sl (Kd.int .i32) b488.1 b488.2 ((l432.getD t483.toNat zS37).f3)] _ := ⟨_, _, hS.re [3, 3, 2] [] rfl sub_self⟩
          refine ⟨hC, ?_⟩
          refine ED.quick hN hF hC [11] [2, 4, 15, 16, 21, 26, 32] 7 [(2, .pointer (some ⟨g469, 0, none⟩)), (4, .pointer (some ⟨g489, 0, none⟩)), (15, .pointer (some ⟨g431, 0, none⟩)), (16, .pointer (some ⟨g431, 0, none⟩)), (21, .int .i64 (IntKind.i64.wrap (t481 + 1))), (26, .int .i64 (l432.length : Int)), (32, .int .i64 (IntKind.i64.wrap (t482 - 1)))] #[true, true, true, true, true, true, true, true, true, true, true, true, false, true, true, true, true, true, false, false, false, false, false, false] (by kernel_rfl) (by kernel_rfl) ?_
          refine ED.Y hN hF hC 12 6 #[true, true, true, true, true, true, true, true, true, true, true, true, true, true, true, true, true, true, false, false, false, false, false, false] (by kernel_rfl) (by kernel_rfl) rfl (fun _ _ _ hS => YO.div .rem .i64 (IntKind.i64.wrap (t481 + 1)) (l432.length : Int) (Int.tmod (IntKind.i64.wrap (t481 + 1)) (l432.length : Int)) 27 (by kernel_rfl) (by kernel_rfl) (by kernel_rfl) h491 (by first | exact .inl ⟨rfl, rfl⟩ | exact .inr ⟨rfl, rfl⟩)) ?_
          refine ED.quick hN hF hC [18, 19] [2, 4, 16, 27, 32, 34] 4 [(2, .pointer (some ⟨g469, 0, none⟩)), (4, .pointer (some ⟨g489, 0, none⟩)), (16, .pointer (some ⟨g431, 0, none⟩)), (27, .int .i64 (Int.tmod (IntKind.i64.wrap (t481 + 1)) (l432.length : Int))), (32, .int .i64 (IntKind.i64.wrap (t482 - 1))), (34, .pointer (some ⟨g431, 1, none⟩))] #[true, true, true, true, true, true, true, true, true, true, true, true, true, true, true, true, true, true, true, true, false, false, false, false] (by kernel_rfl) (by kernel_rfl) ?_
          refine ED.one 20 3 #[true, true, true, true, true, true, true, true, true, true, true, true, true, true, true, true, true, true, true, true, true, false, false, false] (by kernel_rfl) (by kernel_rfl) (by kernel_rfl) (EO.storeBox (os' := Ass.box 37 g489 [.int .i32 ((l432.getD t483.toNat zS37).f0), .int .i64 ((l432.getD t483.toNat zS37).f1), .int .i64 ((l432.getD t483.toNat zS37).f2), .slice b488.1 ((l432.getD t483.toNat zS37).f3).length b488.2, .int .i32 ((l432.getD t483.toNat zS37).f4.f0), .int .i32 ((l432.getD t483.toNat zS37).f4.f1), .int .i32 ((l432.getD t483.toNat zS37).f4.f2), .int .i32 ((l432.getD t483.toNat zS37).f4.f3), .int .i64 ((l432.getD t483.toNat zS37).f5), .int .i64 ((l432.getD t483.toNat zS37).f6), .int .u32 ((l432.getD t483.toNat zS37).f7), .int .i64 ((l432.getD t483.toNat zS37).f8)] :: Ass.box 90 g431 [.slice (some ad487) l432.length C434, .int .i64 (Int.tmod (IntKind.i64.wrap (t481 + 1)) (l432.length : Int)), .int .i64 t482] :: Ass.own 37 kS37 (some ad487) C434 l432 :: Ass.box 37 g469 [.int .i32 0, .int .i64 0, .int .i64 0, .slice none ([] : List Int).length 0, .int .i32 0, .int .i32 0, .int .i32 0, .int .i32 0, .int .i64 0, .int .i64 0, .int .u32 0, .int .i64 0] :: os) hS 1 rfl 3 1 (.int .i64 (Int.tmod (IntKind.i64.wrap (t481 + 1)) (l432.length : Int))) [.slice (some ad487) l432.length C434, .int .i64 (Int.tmod (IntKind.i64.wrap (t481 + 1)) (l432.length : Int)), .int .i64 t482] (by kernel_rfl) (by kernel_rfl) (by kernel_rfl) (by kernel_rfl) (by kernel_rfl) (by kernel_rfl) rfl rfl ?_)
          intro w hS
          have hC : Core B [Ass.box 37 g489 [.int .i32 ((l432.getD t483.toNat zS37).f0), .int .i64 ((l432.getD t483.toNat zS37).f1), .int .i64 ((l432.getD t483.toNat zS37).f2), .slice b488.1 ((l432.getD t483.toNat zS37).f3).length b488.2, .int .i32 ((l432.getD t483.toNat zS37).f4.f0), .int .i32 ((l432.getD t483.toNat zS37).f4.f1), .int .i32 ((l432.getD t483.toNat zS37).f4.f2), .int .i32 ((l432.getD t483.toNat zS37).f4.f3), .int .i64 ((l432.getD t483.toNat zS37).f5), .int .i64 ((l432.getD t483.toNat zS37).f6), .int .u32 ((l432.getD t483.toNat zS37).f7), .int .i64 ((l432.getD t483.toNat zS37).f8)], Ass.own 37 kS37 (some ad487) C434 l432, Ass.box 37 g469 [.int .i32 0, .int .i64 0, .int .i64 0, .slice none ([] : List Int).length 0, .int .i32 0, .int .i32 0, .int .i32 0, .int .i32 0, .int .i64 0, .int .i64 0, .int .u32 0, .int .i64 0]] [Ro.sl (Kd.int .i32) b488.1 b488.2 ((l432.getD t483.toNat zS37).f3)] _ := ⟨_, _, hS.re [3, 3, 2] [] rfl sub_self⟩
          refine ⟨hC, ?_⟩
          refine ED.quick hN hF hC [21, 22] [2, 4, 32, 36] 1 [(2, .pointer (some ⟨g469, 0, none⟩)), (4, .pointer (some ⟨g489, 0, none⟩)), (32, .int .i64 (IntKind.i64.wrap (t482 - 1))), (36, .pointer (some ⟨g431, 2, none⟩))] #[true, true, true, true, true, true, true, true, true, true, true, true, true, true, true, true, true, true, true, true, true, true, true, false] (by kernel_rfl) (by kernel_rfl) ?_
          refine ED.one 23 0 #[true, true, true, true, true, true, true, true, true, true, true, true, true, true, true, true, true, true, true, true, true, true, true, true] (by kernel_rfl) (by kernel_rfl) (by kernel_rfl) (EO.storeBox (os' := Ass.box 37 g489 [.int .i32 ((l432.getD t483.toNat zS37).f0), .int .i64 ((l432.getD t483.toNat zS37).f1), .int .i64 ((l432.getD t483.toNat zS37).f2), .slice b488.1 ((l432.getD t483.toNat zS37).f3).length b488.2, .int .i32 ((l432.getD t483.toNat zS37).f4.f0), .int .i32 ((l432.getD t483.toNat zS37).f4.f1), .int .i32 ((l432.getD t483.toNat zS37).f4.f2), .int .i32 ((l432.getD t483.toNat zS37).f4.f3), .int .i64 ((l432.getD t483.toNat zS37).f5), .int .i64 ((l432.getD t483.toNat zS37).f6), .int .u32 ((l432.getD t483.toNat zS37).f7), .int .i64 ((l432.getD t483.toNat zS37).f8)] :: Ass.box 90 g431 [.slice (some ad487) l432.length C434, .int .i64 (Int.tmod (IntKind.i64.wrap (t481 + 1)) (l432.length : Int)), .int .i64 (IntKind.i64.wrap (t482 - 1))] :: Ass.own 37 kS37 (some ad487) C434 l432 :: Ass.box 37 g469 [.int .i32 0, .int .i64 0, .int .i64 0, .slice none ([] : List Int).length 0, .int .i32 0, .int .i32 0, .int .i32 0, .int .i32 0, .int .i64 0, .int .i64 0, .int .u32 0, .int .i64 0] :: os) hS 1 rfl 3 2 (.int .i64 (IntKind.i64.wrap (t482 - 1))) [.slice (some ad487) l432.length C434, .int .i64 (Int.tmod (IntKind.i64.wrap (t481 + 1)) (l432.length : Int)), .int .i64 (IntKind.i64.wrap (t482 - 1))] (by kernel_rfl) (by kernel_rfl) (by kernel_rfl) (by kernel_rfl) (by kernel_rfl) (by kernel_rfl) rfl rfl ?_)
          intro w hS
          have hC : Core B [Ass.box 37 g489 [.int .i32 ((l432.getD t483.toNat zS37).f0), .int .i64 ((l432.getD t483.toNat zS37).f1), .int .i64 ((l432.getD t483.toNat zS37).f2), .slice b488.1 ((l432.getD t483.toNat zS37).f3).length b488.2, .int .i32 ((l432.getD t483.toNat zS37).f4.f0), .int .i32 ((l432.getD t483.toNat zS37).f4.f1), .int .i32 ((l432.getD t483.toNat zS37).f4.f2), .int .i32 ((l432.getD t483.toNat zS37).f4.f3), .int .i64 ((l432.getD t483.toNat zS37).f5), .int .i64 ((l432.getD t483.toNat zS37).f6), .int .u32 ((l432.getD t483.toNat zS37).f7), .int .i64 ((l432.getD t483.toNat zS37).f8)], Ass.own 37 kS37 (some ad487) C434 l432, Ass.box 37 g469 [.int .i32 0, .int .i64 0, .int .i64 0, .slice none ([] : List Int).length 0, .int .i32 0, .int .i32 0, .int .i32 0, .int .i32 0, .int .i64 0, .int .i64 0, .int .u32 0, .int .i64 0]] [Ro.sl (Kd.int .i32) b488.1 b488.2 ((l432.getD t483.toNat zS37).f3)] _ := ⟨_, _, hS.re [3, 3, 2] [] rfl sub_self⟩
          refine ⟨hC, ?_⟩
          refine ED.done (by kernel_rfl) ?_
          refine EQ.to ?_
          refine EQ.keep [2, 4] [(2, .pointer (some ⟨g469, 0, none⟩)), (4, .pointer (some ⟨g489, 0, none⟩))] (by kernel_rfl) ?_
          exact fun a ha => ⟨ha, (hS.re [3, 3, 3, 3] [] rfl (sub_cons 0 rfl (sub_tail (sub_self))))⟩
      · refine EO.Y (YO.loadBox hS 1 rfl 30 0 1 (.slice (some ad487) l432.length C434) 25 (by kernel_rfl) (by kernel_rfl) (by kernel_rfl) (by kernel_rfl)) ?_
        have hC : Core B [Ass.box 37 g489 [.int .i32 ((l432.getD t483.toNat zS37).f0), .int .i64 ((l432.getD t483.toNat zS37).f1), .int .i64 ((l432.getD t483.toNat zS37).f2), .slice b488.1 ((l432.getD t483.toNat zS37).f3).length b488.2, .int .i32 ((l432.getD t483.toNat zS37).f4.f0), .int .i32 ((l432.getD t483.toNat zS37).f4.f1), .int .i32 ((l432.getD t483.toNat zS37).f4.f2), .int .i32 ((l432.getD t483.toNat zS37).f4.f3), .int .i64 ((l432.getD t483.toNat zS37).f5), .int .i64 ((l432.getD t483.toNat zS37).f6), .int .u32 ((l432.getD t483.toNat zS37).f7), .int .i64 ((l432.getD t483.toNat zS37).f8)], Ass.own 37 kS37 (some ad487) C434 l432, Ass.box 37 g469 [.int .i32 0, .int .i64 0, .int .i64 0, .slice none ([] : List Int).length 0, .int .i32 0, .int .i32 0, .int .i32 0, .int .i32 0, .int .i64 0, .int .i64 0, .int .u32 0, .int .i64 0]] [Ro.sl (Kd.int .i32) b488.1 b488.2 ((l432.getD t483.toNat zS37).f3)] _ := ⟨_, _, hS.re [3, 3, 2] [] rfl sub_self⟩
        refine ⟨hC, ?_⟩
        refine ED.at' #[true, true, true, true, true, false, false, true, true, true, true, false, false, true, true, true, false, false, false, false, false, false, false, false] (by kernel_rfl) ?_
        refine ED.quick hN hF hC [11] [2, 4, 15, 16, 19, 26, 30] 11 [(2, .pointer (some ⟨g469, 0, none⟩)), (4, .pointer (some ⟨g489, 0, none⟩)), (15, .pointer (some ⟨g431, 0, none⟩)), (16, .pointer (some ⟨g431, 0, none⟩)), (19, .pointer (some ⟨g431, 1, none⟩)), (26, .int .i64 (l432.length : Int)), (30, .pointer (some ⟨g431, 2, none⟩))] #[true, true, true, true, true, false, false, true, true, true, true, true, false, true, true, true, false, false, false, false, false, false, false, false] (by kernel_rfl) (by kernel_rfl) ?_
        refine ED.two 5 16 10 (by kernel_rfl) (by kernel_rfl) ?_ ?_
        · refine EO.Y (YO.loadBox hS 1 rfl 3 1 1 (.int .i64 t481) 20 (by kernel_rfl) (by kernel_rfl) (by kernel_rfl) (by kernel_rfl)) ?_
          have hC : Core B [Ass.box 37 g489 [.int .i32 ((l432.getD t483.toNat zS37).f0), .int .i64 ((l432.getD t483.toNat zS37).f1), .int .i64 ((l432.getD t483.toNat zS37).f2), .slice b488.1 ((l432.getD t483.toNat zS37).f3).length b488.2, .int .i32 ((l432.getD t483.toNat zS37).f4.f0), .int .i32 ((l432.getD t483.toNat zS37).f4.f1), .int .i32 ((l432.getD t483.toNat zS37).f4.f2), .int .i32 ((l432.getD t483.toNat zS37).f4.f3), .int .i64 ((l432.getD t483.toNat zS37).f5), .int .i64 ((l432.getD t483.toNat zS37).f6), .int .u32 ((l432.getD t483.toNat zS37).f7), .int .i64 ((l432.getD t483.toNat zS37).f8)], Ass.own 37 kS37 (some ad487) C434 l432, Ass.box 37 g469 [.int .i32 0, .int .i64 0, .int .i64 0, .slice none ([] : List Int).length 0, .int .i32 0, .int .i32 0, .int .i32 0, .int .i32 0, .int .i64 0, .int .i64 0, .int .u32 0, .int .i64 0]] [Ro.sl (Kd.int .i32) b488.1 b488.2 ((l432.getD t483.toNat zS37).f3)] _ := ⟨_, _, hS.re [3, 3, 2] [] rfl sub_self⟩
          refine ⟨hC, ?_⟩
          refine ED.at' #[true, true, true, true, true, true, false, true, true, true, true, true, false, true, true, true, false, false, false, false, false, false, false, false] (by kernel_rfl) ?_
          refine ED.quick hN hF hC [6] [2, 4, 15, 16, 21, 26, 30] 9 [(2, .pointer (some ⟨g469, 0, none⟩)), (4, .pointer (some ⟨g489, 0, none⟩)), (15, .pointer (some ⟨g431, 0, none⟩)), (16, .pointer (some ⟨g431, 0, none⟩)), (21, .int .i64 (IntKind.i64.wrap (t481 + 1))), (26, .int .i64 (l432.length : Int)), (30, .pointer (some ⟨g431, 2, none⟩))] #[true, true, true, true, true, true, true, true, true, true, true, true, false, true, true, true, false, false, false, false, false, false, false, false] (by kernel_rfl) (by kernel_rfl) ?_
          refine ED.Y hN hF hC 12 8 #[true, true, true, true, true, true, true, true, true, true, true, true, true, true, true, true, false, false, false, false, false, false, false, false] (by kernel_rfl) (by kernel_rfl) rfl (fun _ _ _ hS => YO.div .rem .i64 (IntKind.i64.wrap (t481 + 1)) (l432.length : Int) (Int.tmod (IntKind.i64.wrap (t481 + 1)) (l432.length : Int)) 27 (by kernel_rfl) (by kernel_rfl) (by kernel_rfl) h491 (by first | exact .inl ⟨rfl, rfl⟩ | exact .inr ⟨rfl, rfl⟩)) ?_
          refine ED.one 16 7 #[true, true, true, true, true, true, true, true, true, true, true, true, true, true, true, true, true, false, false, false, false, false, false, false] (by kernel_rfl) (by kernel_rfl) (by kernel_rfl) (EO.Y (YO.loadBox hS 1 rfl 3 2 1 (.int .i64 t482) 31 (by kernel_rfl) (by kernel_rfl) (by kernel_rfl) (by kernel_rfl)) ?_)
          have hC : Core B [Ass.box 37 g489 [.int .i32 ((l432.getD t483.toNat zS37).f0), .int .i64 ((l432.getD t483.toNat zS37).f1), .int .i64 ((l432.getD t483.toNat zS37).f2), .slice b488.1 ((l432.getD t483.toNat zS37).f3).length b488.2, .int .i32 ((l432.getD t483.toNat zS37).f4.f0), .int .i32 ((l432.getD t483.toNat zS37).f4.f1), .int .i32 ((l432.getD t483.toNat zS37).f4.f2), .int .i32 ((l432.getD t483.toNat zS37).f4.f3), .int .i64 ((l432.getD t483.toNat zS37).f5), .int .i64 ((l432.getD t483.toNat zS37).f6), .int .u32 ((l432.getD t483.toNat zS37).f7), .int .i64 ((l432.getD t483.toNat zS37).f8)], Ass.own 37 kS37 (some ad487) C434 l432, Ass.box 37 g469 [.int .i32 0, .int .i64 0, .int .i64 0, .slice none ([] : List Int).length 0, .int .i32 0, .int .i32 0, .int .i32 0, .int .i32 0, .int .i64 0, .int .i64 0, .int .u32 0, .int .i64 0]] [Ro.sl (Kd.int .i32) b488.1 b488.2 ((l432.getD t483.toNat zS37).f3)] _ := ⟨_, _, hS.re [3, 3, 2] [] rfl sub_self⟩
          refine ⟨hC, ?_⟩
          refine ED.quick hN hF hC [17, 18, 19] [2, 4, 16, 27, 32, 34] 4 [(2, .pointer (some ⟨g469, 0, none⟩)), (4, .pointer (some ⟨g489, 0, none⟩)), (16, .pointer (some ⟨g431, 0, none⟩)), (27, .int .i64 (Int.tmod (IntKind.i64.wrap (t481 + 1)) (l432.length : Int))), (32, .int .i64 (IntKind.i64.wrap (t482 - 1))), (34, .pointer (some ⟨g431, 1, none⟩))] #[true, true, true, true, true, true, true, true, true, true, true, true, true, true, true, true, true, true, true, true, false, false, false, false] (by kernel_rfl) (by kernel_rfl) ?_
          refine ED.one 20 3 #[true, true, true, true, true, true, true, true, true, true, true, true, true, true, true, true, true, true, true, true, true, false, false, false] (by kernel_rfl) (by kernel_rfl) (by kernel_rfl) (EO.storeBox (os' := Ass.box 37 g489 [.int .i32 ((l432.getD t483.toNat zS37).f0), .int .i64 ((l432.getD t483.toNat zS37).f1), .int .i64 ((l432.getD t483.toNat zS37).f2), .slice b488.1 ((l432.getD t483.toNat zS37).f3).length b488.2, .int .i32 ((l432.getD t483.toNat zS37).f4.f0), .int .i32 ((l432.getD t483.toNat zS37).f4.f1), .int .i32 ((l432.getD t483.toNat zS37).f4.f2), .int .i32 ((l432.getD t483.toNat zS37).f4.f3), .int .i64 ((l432.getD t483.toNat zS37).f5), .int .i64 ((l432.getD t483.toNat zS37).f6), .int .u32 ((l432.getD t483.toNat zS37).f7), .int .i64 ((l432.getD t483.toNat zS37).f8)] :: Ass.box 90 g431 [.slice (some ad487) l432.length C434, .int .i64 (Int.tmod (IntKind.i64.wrap (t481 + 1)) (l432.length : Int)), .int .i64 t482] :: Ass.own 37 kS37 (some ad487) C434 l432 :: Ass.box 37 g469 [.int .i32 0, .int .i64 0, .int .i64 0, .slice none ([] : List Int).length 0, .int .i32 0, .int .i32 0, .int .i32 0, .int .i32 0, .int .i64 0, .int .i64 0, .int .u32 0, .int .i64 0] :: os) hS 1 rfl 3 1 (.int .i64 (Int.tmod (IntKind.i64.wrap (t481 + 1)) (l432.length : Int))) [.slice (some ad487) l432.length C434, .int .i64 (Int.tmod (IntKind.i64.wrap (t481 + 1)) (l432.length : Int)), .int .i64 t482] (by kernel_rfl) (by kernel_rfl) (by kernel_rfl) (by kernel_rfl) (by kernel_rfl) (by kernel_rfl) rfl rfl ?_)
          intro w hS
          have hC : Core B [Ass.box 37 g489 [.int .i32 ((l432.getD t483.toNat zS37).f0), .int .i64 ((l432.getD t483.toNat zS37).f1), .int .i64 ((l432.getD t483.toNat zS37).f2), .slice b488.1 ((l432.getD t483.toNat zS37).f3).length b488.2, .int .i32 ((l432.getD t483.toNat zS37).f4.f0), .int .i32 ((l432.getD t483.toNat zS37).f4.f1), .int .i32 ((l432.getD t483.toNat zS37).f4.f2), .int .i32 ((l432.getD t483.toNat zS37).f4.f3), .int .i64 ((l432.getD t483.toNat zS37).f5), .int .i64 ((l432.getD t483.toNat zS37).f6), .int .u32 ((l432.getD t483.toNat zS37).f7), .int .i64 ((l432.getD t483.toNat zS37).f8)], Ass.own 37 kS37 (some ad487) C434 l432, Ass.box 37 g469 [.int .i32 0, .int .i64 0, .int .i64 0, .slice none ([] : List Int).length 0, .int .i32 0, .int .i32 0, .int .i32 0, .int .i32 0, .int .i64 0, .int .i64 0, .int .u32 0, .int .i64 0]] [Ro.sl (Kd.int .i32) b488.1 b488.2 ((l432.getD t483.toNat zS37).f3)] _ := ⟨_, _, hS.re [3, 3, 2] [] rfl sub_self⟩
          refine ⟨hC, ?_⟩
          refine ED.quick hN hF hC [21, 22] [2, 4, 32, 36] 1 [(2, .pointer (some ⟨g469, 0, none⟩)), (4, .pointer (some ⟨g489, 0, none⟩)), (32, .int .i64 (IntKind.i64.wrap (t482 - 1))), (36, .pointer (some ⟨g431, 2, none⟩))] #[true, true, true, true, true, true, true, true, true, true, true, true, true, true, true, true, true, true, true, true, true, true, true, false] (by kernel_rfl) (by kernel_rfl) ?_
          refine ED.one 23 0 #[true, true, true, true, true, true, true, true, true, true, true, true, true, true, true, true, true, true, true, true, true, true, true, true] (by kernel_rfl) (by kernel_rfl) (by kernel_rfl) (EO.storeBox (os' := Ass.box 37 g489 [.int .i32 ((l432.getD t483.toNat zS37).f0), .int .i64 ((l432.getD t483.toNat zS37).f1), .int .i64 ((l432.getD t483.toNat zS37).f2), .slice b488.1 ((l432.getD t483.toNat zS37).f3).length b488.2, .int .i32 ((l432.getD t483.toNat zS37).f4.f0), .int .i32 ((l432.getD t483.toNat zS37).f4.f1), .int .i32 ((l432.getD t483.toNat zS37).f4.f2), .int .i32 ((l432.getD t483.toNat zS37).f4.f3), .int .i64 ((l432.getD t483.toNat zS37).f5), .int .i64 ((l432.getD t483.toNat zS37).f6), .int .u32 ((l432.getD t483.toNat zS37).f7), .int .i64 ((l432.getD t483.toNat zS37).f8)] :: Ass.box 90 g431 [.slice (some ad487) l432.length C434, .int .i64 (Int.tmod (IntKind.i64.wrap (t481 + 1)) (l432.length : Int)), .int .i64 (IntKind.i64.wrap (t482 - 1))] :: Ass.own 37 kS37 (some ad487) C434 l432 :: Ass.box 37 g469 [.int .i32 0, .int .i64 0, .int .i64 0, .slice none ([] : List Int).length 0, .int .i32 0, .int .i32 0, .int .i32 0, .int .i32 0, .int .i64 0, .int .i64 0, .int .u32 0, .int .i64 0] :: os) hS 1 rfl 3 2 (.int .i64 (IntKind.i64.wrap (t482 - 1))) [.slice (some ad487) l432.length C434, .int .i64 (Int.tmod (IntKind.i64.wrap (t481 + 1)) (l432.length : Int)), .int .i64 (IntKind.i64.wrap (t482 - 1))] (by kernel_rfl) (by kernel_rfl) (by kernel_rfl) (by kernel_rfl) (by kernel_rfl) (by kernel_rfl) rfl rfl ?_)
          intro w hS
          have hC : Core B [Ass.box 37 g489 [.int .i32 ((l432.getD t483.toNat zS37).f0), .int .i64 ((l432.getD t483.toNat zS37).f1), .int .i64 ((l432.getD t483.toNat zS37).f2), .slice b488.1 ((l432.getD t483.toNat zS37).f3).length b488.2, .int .i32 ((l432.getD t483.toNat zS37).f4.f0), .int .i32 ((l432.getD t483.toNat zS37).f4.f1), .int .i32 ((l432.getD t483.toNat zS37).f4.f2), .int .i32 ((l432.getD t483.toNat zS37).f4.f3), .int .i64 ((l432.getD t483.toNat zS37).f5), .int .i64 ((l432.getD t483.toNat zS37).f6), .int .u32 ((l432.getD t483.toNat zS37).f7), .int .i64 ((l432.getD t483.toNat zS37).f8)], Ass.own 37 kS37 (some ad487) C434 l432, Ass.box 37 g469 [.int .i32 0, .int .i64 0, .int .i64 0, .slice none ([] : List Int).length 0, .int .i32 0, .int .i32 0, .int .i32 0, .int .i32 0, .int .i64 0, .int .i64 0, .int .u32 0, .int .i64 0]] [Ro.sl (Kd.int .i32) b488.1 b488.2 ((l432.getD t483.toNat zS37).f3)] _ := ⟨_, _, hS.re [3, 3, 2] [] rfl sub_self⟩
          refine ⟨hC, ?_⟩
          refine ED.done (by kernel_rfl) ?_
          refine EQ.to ?_
          refine EQ.keep [2, 4] [(2, .pointer (some ⟨g469, 0, none⟩)), (4, .pointer (some ⟨g489, 0, none⟩))] (by kernel_rfl) ?_
          exact fun a ha => ⟨ha, (hS.re [3, 3, 3, 3] [] rfl (sub_cons 0 rfl (sub_tail (sub_self))))⟩
        · refine EO.Y (YO.loadBox hS 1 rfl 3 2 1 (.int .i64 t482) 31 (by kernel_rfl) (by kernel_rfl) (by kernel_rfl) (by kernel_rfl)) ?_
          have hC : Core B [Ass.box 37 g489 [.int .i32 ((l432.getD t483.toNat zS37).f0), .int .i64 ((l432.getD t483.toNat zS37).f1), .int .i64 ((l432.getD t483.toNat zS37).f2), .slice b488.1 ((l432.getD t483.toNat zS37).f3).length b488.2, .int .i32 ((l432.getD t483.toNat zS37).f4.f0), .int .i32 ((l432.getD t483.toNat zS37).f4.f1), .int .i32 ((l432.getD t483.toNat zS37).f4.f2), .int .i32 ((l432.getD t483.toNat zS37).f4.f3), .int .i64 ((l432.getD t483.toNat zS37).f5), .int .i64 ((l432.getD t483.toNat zS37).f6), .int .u32 ((l432.getD t483.toNat zS37).f7), .int .i64 ((l432.getD t483.toNat zS37).f8)], Ass.own 37 kS37 (some ad487) C434 l432, Ass.box 37 g469 [.int .i32 0, .int .i64 0, .int .i64 0, .slice none ([] : List Int).length 0, .int .i32 0, .int .i32 0, .int .i32 0, .int .i32 0, .int .i64 0, .int .i64 0, .int .u32 0, .int .i64 0]] [Ro.sl (Kd.int .i32) b488.1 b488.2 ((l432.getD t483.toNat zS37).f3)] _ := ⟨_, _, hS.re [3, 3, 2] [] rfl sub_self⟩
          refine ⟨hC, ?_⟩
          refine ED.at' #[true, true, true, true, true, false, false, true, true, true, true, true, false, true, true, true, true, false, false, false, false, false, false, false] (by kernel_rfl) ?_
          refine ED.quick hN hF hC [17] [2, 4, 15, 16, 19, 26, 32] 9 [(2, .pointer (some ⟨g469, 0, none⟩)), (4, .pointer (some ⟨g489, 0, none⟩)), (15, .pointer (some ⟨g431, 0, none⟩)), (16, .pointer (some ⟨g431, 0, none⟩)), (19, .pointer (some ⟨g431, 1, none⟩)), (26, .int .i64 (l432.length : Int)), (32, .int .i64 (IntKind.i64.wrap (t482 - 1)))] #[true, true, true, true, true, false, false, true, true, true, true, true, false, true, true, true, true, true, false, false, false, false, false, false] (by kernel_rfl) (by kernel_rfl) ?_
          refine ED.one 5 8 #[true, true, true, true, true, true, false, true, true, true, true, true, false, true, true, true, true, true, false, false, false, false, false, false] (by kernel_rfl) (by kernel_rfl) (by kernel_rfl) (EO.Y (YO.loadBox hS 1 rfl 3 1 1 (.int .i64 t481) 20 (by kernel_rfl) (by kernel_rfl) (by kernel_rfl) (by kernel_rfl)) ?_)
          have hC : Core B [Ass.box 37 g489 [.int .i32 ((l432.getD t483.toNat zS37).f0), .int .i64 ((l432.getD t483.toNat zS37).f1), .int .i64 ((l432.getD t483.toNat zS37).f2), .slice b488.1 ((l432.getD t483.toNat zS37).f3).length b488.2, .int .i32 ((l432.getD t483.toNat zS37).f4.f0), .int .i32 ((l432.getD t483.toNat zS37).f4.f1), .int .i32 ((l432.getD t483.toNat zS37).f4.f2), .int .i32 ((l432.getD t483.toNat zS37).f4.f3), .int .i64 ((l432.getD t483.toNat zS37).f5), .int .i64 ((l432.getD t483.toNat zS37).f6), .int .u32 ((l432.getD t483.toNat zS37).f7), .int .i64 ((l432.getD t483.toNat zS37).f8)], Ass.own 37 kS37 (some ad487) C434 l432, Ass.box 37 g469 [.int .i32 0, .int .i64 0, .int .i64 0, .slice none ([] : List Int).length 0, .int .i32 0, .int .i32 0, .int .i32 0, .int .i32 0, .int .i64 0, .int .i64 0, .int .u32 0, .int .i64 0]] [Ro.sl (Kd.int .i32) b488.1 b488.2 ((l432.getD t483.toNat zS37).f3)] _ := ⟨_, _, hS.re [3, 3, 2] [] rfl sub_self⟩
          refine ⟨hC, ?_⟩
          refine ED.quick hN hF hC [6] [2, 4, 15, 16, 21, 26, 32] 7 [(2, .pointer (some ⟨g469, 0, none⟩)), (4, .pointer (some ⟨g489, 0, none⟩)), (15, .pointer (some ⟨g431, 0, none⟩)), (16, .pointer (some ⟨g431, 0, none⟩)), (21, .int .i64 (IntKind.i64.wrap (t481 + 1))), (26, .int .i64 (l432.length : Int)), (32, .int .i64 (IntKind.i64.wrap (t482 - 1)))] #[true, true, true, true, true, true, true, true, true, true, true, true, false, true, true, true, true, true, false, false, false, false, false, false] (by kernel_rfl) (by kernel_rfl) ?_
          refine ED.Y hN hF hC 12 6 #[true, true, true, true, true, true, true, true, true, true, true, true, true, true, true, true, true, true, false, false, false, false, false, false] (by kernel_rfl) (by kernel_rfl) rfl (fun _ _ _ hS => YO.div .rem .i64 (IntKind.i64.wrap (t481 + 1)) (l432.length : Int) (Int.tmod (IntKind.i64.wrap (t481 + 1)) (l432.length : Int)) 27 (by kernel_rfl) (by kernel_rfl) (by kernel_rfl) h491 (by first | exact .inl ⟨rfl, rfl⟩ | exact .inr ⟨rfl, rfl⟩)) ?_
          refine ED.quick hN hF hC [18, 19] [2, 4, 16, 27, 32, 34] 4 [(2, .pointer (some ⟨g469, 0, none⟩)), (4, .pointer (some ⟨g489, 0, none⟩)), (16, .pointer (some ⟨g431, 0, none⟩)), (27, .int .i64 (Int.tmod (IntKind.i64.wrap (t481 + 1)) (l432.length : Int))), (32, .int .i64 (IntKind.i64.wrap (t482 - 1))), (34, .pointer (some ⟨g431, 1, none⟩))] #[true, true, true, true, true, true, true, true, true, true, true, true, true, true, true, true, true, true, true, true, false, false, false, false] (by kernel_rfl) (by kernel_rfl) ?_
          refine ED.one 20 3 #[true, true, true, true, true, true, true, true, true, true, true, true, true, true, true, true, true, true, true, true, true, false, false, false] (by kernel_rfl) (by kernel_rfl) (by kernel_rfl) (EO.storeBox (os' := Ass.box 37 g489 [.int .i32 ((l432.getD t483.toNat zS37).f0), .int .i64 ((l432.getD t483.toNat zS37).f1), .int .i64 ((l432.getD t483.toNat zS37).f2), .slice b488.1 ((l432.getD t483.toNat zS37).f3).length b488.2, .int .i32 ((l432.getD t483.toNat zS37).f4.f0), .int .i32 ((l432.getD t483.toNat zS37).f4.f1), .int .i32 ((l432.getD t483.toNat zS37).f4.f2), .int .i32 ((l432.getD t483.toNat zS37).f4.f3), .int .i64 ((l432.getD t483.toNat zS37).f5), .int .i64 ((l432.getD t483.toNat zS37).f6), .int .u32 ((l432.getD t483.toNat zS37).f7), .int .i64 ((l432.getD t483.toNat zS37).f8)] :: Ass.box 90 g431 [.slice (some ad487) l432.length C434, .int .i64 (Int.tmod (IntKind.i64.wrap (t481 + 1)) (l432.length : Int)), .int .i64 t482] :: Ass.own 37 kS37 (some ad487) C434 l432 :: Ass.box 37 g469 [.int .i32 0, .int .i64 0, .int .i64 0, .slice none ([] : List Int).length 0, .int .i32 0, .int .i32 0, .int .i32 0, .int .i32 0, .int .i64 0, .int .i64 0, .int .u32 0, .int .i64 0] :: os) hS 1 rfl 3 1 (.int .i64 (Int.tmod (IntKind.i64.wrap (t481 + 1)) (l432.length : Int))) [.slice (some ad487) l432.length C434, .int .i64 (Int.tmod (IntKind.i64.wrap (t481 + 1)) (l432.length : Int)), .int .i64 t482] (by kernel_rfl) (by kernel_rfl) (by kernel_rfl) (by kernel_rfl) (by kernel_rfl) (by kernel_rfl) rfl rfl ?_)
          intro w hS
          have hC : Core B [Ass.box 37 g489 [.int .i32 ((l432.getD t483.toNat zS37).f0), .int .i64 ((l432.getD t483.toNat zS37).f1), .int .i64 ((l432.getD t483.toNat zS37).f2), .slice b488.1 ((l432.getD t483.toNat zS37).f3).length b488.2, .int .i32 ((l432.getD t483.toNat zS37).f4.f0), .int .i32 ((l432.getD t483.toNat zS37).f4.f1), .int .i32 ((l432.getD t483.toNat zS37).f4.f2), .int .i32 ((l432.getD t483.toNat zS37).f4.f3), .int .i64 ((l432.getD t483.toNat zS37).f5), .int .i64 ((l432.getD t483.toNat zS37).f6), .int .u32 ((l432.getD t483.toNat zS37).f7), .int .i64 ((l432.getD t483.toNat zS37).f8)], Ass.own 37 kS37 (some ad487) C434 l432, Ass.box 37 g469 [.int .i32 0, .int .i64 0, .int .i64 0, .slice none ([] : List Int).length 0, .int .i32 0, .int .i32 0, .int .i32 0, .int .i32 0, .int .i64 0, .int .i64 0, .int .u32 0, .int .i64 0]] [Ro.sl (Kd.int .i32) b488.1 b488.2 ((l432.getD t483.toNat zS37).f3)] _ := ⟨_, _, hS.re [3, 3, 2] [] rfl sub_self⟩
          refine ⟨hC, ?_⟩
          refine ED.quick hN hF hC [21, 22] [2, 4, 32, 36] 1 [(2, .pointer (some ⟨g469, 0, none⟩)), (4, .pointer (some ⟨g489, 0, none⟩)), (32, .int .i64 (IntKind.i64.wrap (t482 - 1))), (36, .pointer (some ⟨g431, 2, none⟩))] #[true, true, true, true, true, true, true, true, true, true, true, true, true, true, true, true, true, true, true, true, true, true, true, false] (by kernel_rfl) (by kernel_rfl) ?_
          refine ED.one 23 0 #[true, true, true, true, true, true, true, true, true, true, true, true, true, true, true, true, true, true, true, true, true, true, true, true] (by kernel_rfl) (by kernel_rfl) (by kernel_rfl) (EO.storeBox (os' := Ass.box 37 g489 [.int .i32 ((l432.getD t483.toNat zS37).f0), .int .i64 ((l432.getD t483.toNat zS37).f1), .int .i64 ((l432.getD t483.toNat zS37).f2), .slice b488.1 ((l432.getD t483.toNat zS37).f3).length b488.2, .int .i32 ((l432.getD t483.toNat zS37).f4.f0), .int .i32 ((l432.getD t483.toNat zS37).f4.f1), .int .i32 ((l432.getD t483.toNat zS37).f4.f2), .int .i32 ((l432.getD t483.toNat zS37).f4.f3), .int .i64 ((l432.getD t483.toNat zS37).f5), .int .i64 ((l432.getD t483.toNat zS37).f6), .int .u32 ((l432.getD t483.toNat zS37).f7), .int .i64 ((l432.getD t483.toNat zS37).f8)] :: Ass.box 90 g431 [.slice (some ad487) l432.length C434, .int .i64 (Int.tmod (IntKind.i64.wrap (t481 + 1)) (l432.length : Int)), .int .i64 (IntKind.i64.wrap (t482 - 1))] :: Ass.own 37 kS37 (some ad487) C434 l432 :: Ass.box 37 g469 [.int .i32 0, .int .i64 0, .int .i64 0, .slice none ([] : List Int).length 0, .int .i32 0, .int .i32 0, .int .i32 0, .int .i32 0, .int .i64 0, .int .i64 0, .int .u32 0, .int .i64 0] :: os) hS 1 rfl 3 2 (.int .i64 (IntKind.i64.wrap (t482 - 1))) [.slice (some ad487) l432.length C434, .int .i64 (Int.tmod (IntKind.i64.wrap (t481 + 1)) (l432.length : Int)), .int .i64 (IntKind.i64.wrap (t482 - 1))] (by kernel_rfl) (by kernel_rfl) (by kernel_rfl) (by kernel_rfl) (by kernel_rfl) (by kernel_rfl) rfl rfl ?_)
          intro w hS
          have hC : Core B [Ass.box 37 g489 [.int .i32 ((l432.getD t483.toNat zS37).f0), .int .i64 ((l432.getD t483.toNat zS37).f1), .int .i64 ((l432.getD t483.toNat zS37).f2), .slice b488.1 ((l432.getD t483.toNat zS37).f3).length b488.2, .int .i32 ((l432.getD t483.toNat zS37).f4.f0), .int .i32 ((l432.getD t483.toNat zS37).f4.f1), .int .i32 ((l432.getD t483.toNat zS37).f4.f2), .int .i32 ((l432.getD t483.toNat zS37).f4.f3), .int .i64 ((l432.getD t483.toNat zS37).f5), .int .i64 ((l432.getD t483.toNat zS37).f6), .int .u32 ((l432.getD t483.toNat zS37).f7), .int .i64 ((l432.getD t483.toNat zS37).f8)], Ass.own 37 kS37 (some ad487) C434 l432, Ass.box 37 g469 [.int .i32 0, .int .i64 0, .int .i64 0, .slice none ([] : List Int).length 0, .int .i32 0, .int .i32 0, .int .i32 0, .int .i32 0, .int .i64 0, .int .i64 0, .int .u32 0, .int .i64 0]] [Ro.sl (Kd.int .i32) b488.1 b488.2 ((l432.getD t483.toNat zS37).f3)] _ := ⟨_, _, hS.re [3, 3, 2] [] rfl sub_self⟩
          refine ⟨hC, ?_⟩
          refine ED.done (by kernel_rfl) ?_
          refine EQ.to ?_
          refine EQ.keep [2, 4] [(2, .pointer (some ⟨g469, 0, none⟩)), (4, .pointer (some ⟨g489, 0, none⟩))] (by kernel_rfl) ?_
          exact fun a ha => ⟨ha, (hS.re [3, 3, 3, 3] [] rfl (sub_cons 0 rfl (sub_tail (sub_self))))⟩
      · refine EO.Y (YO.loadBox hS 1 rfl 3 2 1 (.int .i64 t482) 31 (by kernel_rfl) (by kernel_rfl) (by kernel_rfl) (by kernel_rfl)) ?_
        have hC : Core B [Ass.box 37 g489 [.int .i32 ((l432.getD t483.toNat zS37).f0), .int .i64 ((l432.getD t483.toNat zS37).f1), .int .i64 ((l432.getD t483.toNat zS37).f2), .slice b488.1 ((l432.getD t483.toNat zS37).f3).length b488.2, .int .i32 ((l432.getD t483.toNat zS37).f4.f0), .int .i32 ((l432.getD t483.toNat zS37).f4.f1), .int .i32 ((l432.getD t483.toNat zS37).f4.f2), .int .i32 ((l432.getD t483.toNat zS37).f4.f3), .int .i64 ((l432.getD t483.toNat zS37).f5), .int .i64 ((l432.getD t483.toNat zS37).f6), .int .u32 ((l432.getD t483.toNat zS37).f7), .int .i64 ((l432.getD t483.toNat zS37).f8)], Ass.own 37 kS37 (some ad487) C434 l432, Ass.box 37 g469 [.int .i32 0, .int .i64 0, .int .i64 0, .slice none ([] : List Int).length 0, .int .i32 0, .int .i32 0, .int .i32 0, .int .i32 0, .int .i64 0, .int .i64 0, .int .u32 0, .int .i64 0]] [Ro.sl (Kd.int .i32) b488.1 b488.2 ((l432.getD t483.toNat zS37).f3)] _ := ⟨_, _, hS.re [3, 3, 2] [] rfl sub_self⟩
        refine ⟨hC, ?_⟩
        refine ED.at' #[true, true, true, true, true, false, false, true, true, true, false, false, false, true, true, true, true, false, false, false, false, false, false, false] (by kernel_rfl) ?_
        refine ED.quick hN hF hC [17] [2, 4, 15, 16, 19, 24, 32] 11 [(2, .pointer (some ⟨g469, 0, none⟩)), (4, .pointer (some ⟨g489, 0, none⟩)), (15, .pointer (some ⟨g431, 0, none⟩)), (16, .pointer (some ⟨g431, 0, none⟩)), (19, .pointer (some ⟨g431, 1, none⟩)), (24, .pointer (some ⟨g431, 0, none⟩)), (32, .int .i64 (IntKind.i64.wrap (t482 - 1)))] #[true, true, true, true, true, false, false, true, true, true, false, false, false, true, true, true, true, true, false, false, false, false, false, false] (by kernel_rfl) (by kernel_rfl) ?_
        refine ED.two 5 10 10 (by kernel_rfl) (by kernel_rfl) ?_ ?_
        · refine EO.Y (YO.loadBox hS 1 rfl 3 1 1 (.int .i64 t481) 20 (by kernel_rfl) (by kernel_rfl) (by kernel_rfl) (by kernel_rfl)) ?_
          have hC : Core B [Ass.box 37 g489 [.int .i32 ((l432.getD t483.toNat zS37).f0), .int .i64 ((l432.getD t483.toNat zS37).f1), .int .i64 ((l432.getD t483.toNat zS37).f2), .slice b488.1 ((l432.getD t483.toNat zS37).f3).length b488.2, .int .i32 ((l432.getD t483.toNat zS37).f4.f0), .int .i32 ((l432.getD t483.toNat zS37).f4.f1), .int .i32 ((l432.getD t483.toNat zS37).f4.f2), .int .i32 ((l432.getD t483.toNat zS37).f4.f3), .int .i64 ((l432.getD t483.toNat zS37).f5), .int .i64 ((l432.getD t483.toNat zS37).f6), .int .u32 ((l432.getD t483.toNat zS37).f7), .int .i64 ((l432.getD t483.toNat zS37).f8)], Ass.own 37 kS37 (some ad487) C434 l432, Ass.box 37 g469 [.int .i32 0, .int .i64 0, .int .i64 0, .slice none ([] : List Int).length 0, .int .i32 0, .int .i32 0, .int .i32 0, .int .i32 0, .int .i64 0, .int .i64 0, .int .u32 0, .int .i64 0]] [Ro.sl (Kd.int .i32) b488.1 b488.2 ((l432.getD t483.toNat zS37).f3)] _ := ⟨_, _, hS.re [3, 3, 2] [] rfl sub_self⟩
          refine ⟨hC, ?_⟩
          refine ED.at' #[true, true, true, true, true, true, false, true, true, true, false, false, false, true, true, true, true, true, false, false, false, false, false, false] (by kernel_rfl) ?_
          refine ED.quick hN hF hC [6] [2, 4, 15, 16, 21, 24, 32] 9 [(2, .pointer (some ⟨g469, 0, none⟩)), (4, .pointer (some ⟨g489, 0, none⟩)), (15, .pointer (some ⟨g431, 0, none⟩)), (16, .pointer (some ⟨g431, 0, none⟩)), (21, .int .i64 (IntKind.i64.wrap (t481 + 1))), (24, .pointer (some ⟨g431, 0, none⟩)), (32, .int .i64 (IntKind.i64.wrap (t482 - 1)))] #[true, true, true, true, true, true, true, true, true, true, false, false, false, true, true, true, true, true, false, false, false, false, false, false] (by kernel_rfl) (by kernel_rfl) ?_
          refine ED.one 10 8 #[true, true, true, true, true, true, true, true, true, true, true, false, false, true, true, true, true, true, false, false, false, false, false, false] (by kernel_rfl) (by kernel_rfl) (by kernel_rfl) (EO.Y (YO.loadBox hS 1 rfl 30 0 1 (.slice (some ad487) l432.length C434) 25 (by kernel_rfl) (by kernel_rfl) (by kernel_rfl) (by kernel_rfl)) ?_)
          have hC : Core B [Ass.box 37 g489 [.int .i32 ((l432.getD t483.toNat zS37).f0), .int .i64 ((l432.getD t483.toNat zS37).f1), .int .i64 ((l432.getD t483.toNat zS37).f2), .slice b488.1 ((l432.getD t483.toNat zS37).f3).length b488.2, .int .i32 ((l432.getD t483.toNat zS37).f4.f0), .int .i32 ((l432.getD t483.toNat zS37).f4.f1), .int .i32 ((l432.getD t483.toNat zS37).f4.f2), .int .i32 ((l432.getD t483.toNat zS37).f4.f3), .int .i64 ((l432.getD t483.toNat zS37).f5), .int .i64 ((l432.getD t483.toNat zS37).f6), .int .u32 ((l432.getD t483.toNat zS37).f7), .int .i64 ((l432.getD t483.toNat zS37).f8)], Ass.own 37 kS37 (some ad487) C434 l432, Ass.box 37 g469 [.int .i32 0, .int .i64 0, .int .i64 0, .slice none ([] : List Int).length 0, .int .i32 0, .int .i32 0, .int .i32 0, .int .i32 0, .int .i64 0, .int .i64 0, .int .u32 0, .int .i64 0]] [Ro.sl (Kd.int .i32) b488.1 b488.2 ((l432.getD t483.toNat zS37).f3)] _ := ⟨_, _, hS.re [3, 3, 2] [] rfl sub_self⟩
          refine ⟨hC, ?_⟩
          refine ED.quick hN hF hC [11] [2, 4, 15, 16, 21, 26, 32] 7 [(2, .pointer (some ⟨g469, 0, none⟩)), (4, .pointer (some ⟨g489, 0, none⟩)), (15, .pointer (some ⟨g431, 0, none⟩)), (16, .pointer (some ⟨g431, 0, none⟩)), (21, .int .i64 (IntKind.i64.wrap (t481 + 1))), (26, .int .i64 (l432.length : Int)), (32, .int .i64 (IntKind.i64.wrap (t482 - 1)))] #[true, true, true, true, true, true, true, true, true, true, true, true, false, true, true, true, true, true, false, false, false, false, false, false] (by kernel_rfl) (by kernel_rfl) ?_
          refine ED.Y hN hF hC 12 6 #[true, true, true, true, true, true, true, true, true, true, true, true, true, true, true, true, true, true, false, false, false, false, false, false] (by kernel_rfl) (by kernel_rfl) rfl (fun _ _ _ hS => YO.div .rem .i64 (IntKind.i64.wrap (t481 + 1)) (l432.length : Int) (Int.tmod (IntKind.i64.wrap (t481 + 1)) (l432.length : Int)) 27 (by kernel_rfl) (by kernel_rfl) (by kernel_rfl) h491 (by first | exact .inl ⟨rfl, rfl⟩ | exact .inr ⟨rfl, rfl⟩)) ?_
          refine ED.quick hN hF hC [18, 19] [2, 4, 16, 27, 32, 34] 4 [(2, .pointer (some ⟨g469, 0, none⟩)), (4, .pointer (some ⟨g489, 0, none⟩)), (16, .pointer (some ⟨g431, 0, none⟩)), (27, .int .i64 (Int.tmod (IntKind.i64.wrap (t481 + 1)) (l432.length : Int))), (32, .int .i64 (IntKind.i64.wrap (t482 - 1))), (34, .pointer (some ⟨g431, 1, none⟩))] #[true, true, true, true, true, true, true, true, true, true, true, true, true, true, true, true, true, true, true, true, false, false, false, false] (by kernel_rfl) (by kernel_rfl) ?_
          refine ED.one 20 3 #[true, true, true, true, true, true, true, true, true, true, true, true, true, true, true, true, true, true, true, true, true, false, false, false] (by kernel_rfl) (by kernel_rfl) (by kernel_rfl) (EO.storeBox (os' := Ass.box 37 g489 [.int .i32 ((l432.getD t483.toNat zS37).f0), .int .i64 ((l432.getD t483.toNat zS37).f1), .int .i64 ((l432.getD t483.toNat zS37).f2), .slice b488.1 ((l432.getD t483.toNat zS37).f3).length b488.2, .int .i32 ((l432.getD t483.toNat zS37).f4.f0), .int .i32 ((l432.getD t483.toNat zS37).f4.f1), .int .i32 ((l432.getD t483.toNat zS37).f4.f2), .int .i32 ((l432.getD t483.toNat zS37).f4.f3), .int .i64 ((l432.getD t483.toNat zS37).f5), .int .i64 ((l432.getD t483.toNat zS37).f6), .int .u32 ((l432.getD t483.toNat zS37).f7), .int .i64 ((l432.getD t483.toNat zS37).f8)] :: Ass.box 90 g431 [.slice (some ad487) l432.length C434, .int .i64 (Int.tmod (IntKind.i64.wrap (t481 + 1)) (l432.length : Int)), .int .i64 t482] :: Ass.own 37 kS37 (some ad487) C434 l432 :: Ass.box 37 g469 [.int .i32 0, .int .i64 0, .int .i64 0, .slice none ([] : List Int).length 0, .int .i32 0, .int .i32 0, .int .i32 0, .int .i32 0, .int .i64 0, .int .i64 0, .int .u32 0, .int .i64 0] :: os) hS 1 rfl 3 1 (.int .i64 (Int.tmod (IntKind.i64.wrap (t481 + 1)) (l432.length : Int))) [.slice (some ad487) l432.length C434, .int .i64 (Int.tmod (IntKind.i64.wrap (t481 + 1)) (l432.length : Int)), .int .i64 t482] (by kernel_rfl) (by kernel_rfl) (by kernel_rfl) (by kernel_rfl) (by kernel_rfl) (by kernel_rfl) rfl rfl ?_)
          intro w hS
          have hC : Core B [Ass.box 37 g489 [.int .i32 ((l432.getD t483.toNat zS37).f0), .int .i64 ((l432.getD t483.toNat zS37).f1), .int .i64 ((l432.getD t483.toNat zS37).f2), .slice b488.1 ((l432.getD t483.toNat zS37).f3).length b488.2, .int .i32 ((l432.getD t483.toNat zS37).f4.f0), .int .i32 ((l432.getD t483.toNat zS37).f4.f1), .int .i32 ((l432.getD t483.toNat zS37).f4.f2), .int .i32 ((l432.getD t483.toNat zS37).f4.f3), .int .i64 ((l432.getD t483.toNat zS37).f5), .int .i64 ((l432.getD t483.toNat zS37).f6), .int .u32 ((l432.getD t483.toNat zS37).f7), .int .i64 ((l432.getD t483.toNat zS37).f8)], Ass.own 37 kS37 (some ad487) C434 l432, Ass.box 37 g469 [.int .i32 0, .int .i64 0, .int .i64 0, .slice none ([] : List Int).length 0, .int .i32 0, .int .i32 0, .int .i32 0, .int .i32 0, .int .i64 0, .int .i64 0, .int .u32 0, .int .i64 0]] [Ro.sl (Kd.int .i32) b488.1 b488.2 ((l432.getD t483.toNat zS37).f3)] _ := ⟨_, _, hS.re [3, 3, 2] [] rfl sub_self⟩
          refine ⟨hC, ?_⟩
          refine ED.quick hN hF hC [21, 22] [2, 4, 32, 36] 1 [(2, .pointer (some ⟨g469, 0, none⟩)), (4, .pointer (some ⟨g489, 0, none⟩)), (32, .int .i64 (IntKind.i64.wrap (t482 - 1))), (36, .pointer (some ⟨g431, 2, none⟩))] #[true, true, true, true, true, true, true, true, true, true, true, true, true, true, true, true, true, true, true, true, true, true, true, false] (by kernel_rfl) (by kernel_rfl) ?_
          refine ED.one 23 0 #[true, true, true, true, true, true, true, true, true, true, true, true, true, true, true, true, true, true, true, true, true, true, true, true] (by kernel_rfl) (by kernel_rfl) (by kernel_rfl) (EO.storeBox (os' := Ass.box 37 g489 [.int .i32 ((l432.getD t483.toNat zS37).f0), .int .i64 ((l432.getD t483.toNat zS37).f1), .int .i64 ((l432.getD t483.toNat zS37).f2), .slice b488.1 ((l432.getD t483.toNat zS37).f3).length b488.2, .int .i32 ((l432.getD t483.toNat zS37).f4.f0), .int .i32 ((l432.getD t483.toNat zS37).f4.f1), .int .i32 ((l432.getD t483.toNat zS37).f4.f2), .int .i32 ((l432.getD t483.toNat zS37).f4.f3), .int .i64 ((l432.getD t483.toNat zS37).f5), .int .i64 ((l432.getD t483.toNat zS37).f6), .int .u32 ((l432.getD t483.toNat zS37).f7), .int .i64 ((l432.getD t483.toNat zS37).f8)] :: Ass.box 90 g431 [.slice (some ad487) l432.length C434, .int .i64 (Int.tmod (IntKind.i64.wrap (t481 + 1)) (l432.length : Int)), .int .i64 (IntKind.i64.wrap (t482 - 1))] :: Ass.own 37 kS37 (some ad487) C434 l432 :: Ass.box 37 g469 [.int .i32 0, .int .i64 0, .int .i64 0, .slice none ([] : List Int).length 0, .int .i32 0, .int .i32 0, .int .i32 0, .int .i32 0, .int .i64 0, .int .i64 0, .int .u32 0, .int .i64 0] :: os) hS 1 rfl 3 2 (.int .i64 (IntKind.i64.wrap (t482 - 1))) [.slice (some ad487) l432.length C434, .int .i64 (Int.tmod (IntKind.i64.wrap (t481 + 1)) (l432.length : Int)), .int .i64 (IntKind.i64.wrap (t482 - 1))] (by kernel_rfl) (by kernel_rfl) (by kernel_rfl) (by kernel_rfl) (by kernel_rfl) (by kernel_rfl) rfl rfl ?_)
          intro w hS
          have hC : Core B [Ass.box 37 g489 [.int .i32 ((l432.getD t483.toNat zS37).f0), .int .i64 ((l432.getD t483.toNat zS37).f1), .int .i64 ((l432.getD t483.toNat zS37).f2), .slice b488.1 ((l432.getD t483.toNat zS37).f3).length b488.2, .int .i32 ((l432.getD t483.toNat zS37).f4.f0), .int .i32 ((l432.getD t483.toNat zS37).f4.f1), .int .i32 ((l432.getD t483.toNat zS37).f4.f2), .int .i32 ((l432.getD t483.toNat zS37).f4.f3), .int .i64 ((l432.getD t483.toNat zS37).f5), .int .i64 ((l432.getD t483.toNat zS37).f6), .int .u32 ((l432.getD t483.toNat zS37).f7), .int .i64 ((l432.getD t483.toNat zS37).f8)], Ass.own 37 kS37 (some ad487) C434 l432, Ass.box 37 g469 [.int .i32 0, .int .i64 0, .int .i64 0, .slice none ([] : List Int).length 0, .int .i32 0, .int .i32 0, .int .i32 0, .int .i32 0, .int .i64 0, .int .i64 0, .int .u32 0, .int .i64 0]] [Ro.sl (Kd.int .i32) b488.1 b488.2 ((l432.getD t483.toNat zS37).f3)] _ := ⟨_, _, hS.re [3, 3, 2] [] rfl sub_self⟩
          refine ⟨hC, ?_⟩
          refine ED.done (by kernel_rfl) ?_
          refine EQ.to ?_
          refine EQ.keep [2, 4] [(2, .pointer (some ⟨g469, 0, none⟩)), (4, .pointer (some ⟨g489, 0, none⟩))] (by kernel_rfl) ?_
          exact fun a ha => ⟨ha, (hS.re [3, 3, 3, 3] [] rfl (sub_cons 0 rfl (sub_tail (sub_self))))⟩
        · refine EO.Y (YO.loadBox hS 1 rfl 30 0 1 (.slice (some ad487) l432.length C434) 25 (by kernel_rfl) (by kernel_rfl) (by kernel_rfl) (by kernel_rfl)) ?_
          have hC : Core B [Ass.box 37 g489 [.int .i32 ((l432.getD t483.toNat zS37).f0), .int .i64 ((l432.getD t483.toNat zS37).f1), .int .i64 ((l432.getD t483.toNat zS37).f2), .slice b488.1 ((l432.getD t483.toNat zS37).f3).length b488.2, .int .i32 ((l432.getD t483.toNat zS37).f4.f0), .int .i32 ((l432.getD t483.toNat zS37).f4.f1), .int .i32 ((l432.getD t483.toNat zS37).f4.f2), .int .i32 ((l432.getD t483.toNat zS37).f4.f3), .int .i64 ((l432.getD t483.toNat zS37).f5), .int .i64 ((l432.getD t483.toNat zS37).f6), .int .u32 ((l432.getD t483.toNat zS37).f7), .int .i64 ((l432.getD t483.toNat zS37).f8)], Ass.own 37 kS37 (some ad487) C434 l432, Ass.box 37 g469 [.int .i32 0, .int .i64 0, .int .i64 0, .slice none ([] : List Int).length 0, .int .i32 0, .int .i32 0, .int .i32 0, .int .i32 0, .int .i64 0, .int .i64 0, .int .u32 0, .int .i64 0]] [Ro.sl (Kd.int .i32) b488.1 b488.2 ((l432.getD t483.toNat zS37).f3)] _ := ⟨_, _, hS.re [3, 3, 2] [] rfl sub_self⟩
          refine ⟨hC, ?_⟩
          refine ED.at' #[true, true, true, true, true, false, false, true, true, true, true, false, false, true, true, true, true, true, false, false, false, false, false, false] (by kernel_rfl) ?_
          refine ED.quick hN hF hC [11] [2, 4, 15, 16, 19, 26, 32] 9 [(2, .pointer (some ⟨g469, 0, none⟩)), (4, .pointer (some ⟨g489, 0, none⟩)), (15, .pointer (some ⟨g431, 0, none⟩)), (16, .pointer (some ⟨g431, 0, none⟩)), (19, .pointer (some ⟨g431, 1, none⟩)), (26, .int .i64 (l432.length : Int)), (32, .int .i64 (IntKind.i64.wrap (t482 - 1)))] #[true, true, true, true, true, false, false, true, true, true, true, true, false, true, true, true, true, true, false, false, false, false, false, false] (by kernel_rfl) (by kernel_rfl) ?_
          refine ED.one 5 8 #[true, true, true, true, true, true, false, true, true, true, true, true, false, true, true, true, true, true, false, false, false, false, false, false] (by kernel_rfl) (by kernel_rfl) (by kernel_rfl) (EO.Y (YO.loadBox hS 1 rfl 3 1 1 (.int .i64 t481) 20 (by kernel_rfl) (by kernel_rfl) (by kernel_rfl) (by kernel_rfl)) ?_)
          have hC : Core B [Ass.box 37 g489 [.int .i32 ((l432.getD t483.toNat zS37).f0), .int .i64 ((l432.getD t483.toNat zS37).f1), .int .i64 ((l432.getD t483.toNat zS37).f2), .slice b488.1 ((l432.getD t483.toNat zS37).f3).length b488.2, .int .i32 ((l432.getD t483.toNat zS37).f4.f0), .int .i32 ((l432.getD t483.toNat zS37).f4.f1), .int .i32 ((l432.getD t483.toNat zS37).f4.f2), .int .i32 ((l432.getD t483.toNat zS37).f4.f3), .int .i64 ((l432.getD t483.toNat zS37).f5), .int .i64 ((l432.getD t483.toNat zS37).f6), .int .u32 ((l432.getD t483.toNat zS37).f7), .int .i64 ((l432.getD t483.toNat zS37).f8)], Ass.own 37 kS37 (some ad487) C434 l432, Ass.box 37 g469 [.int .i32 0, .int .i64 0, .int .i64 0, .slice none ([] : List Int).length 0, .int .i32 0, .int .i32 0, .int .i32 0, .int .i32 0, .int .i64 0, .int .i64 0, .int .u32 0, .int .i64 0]] [Ro.sl (Kd.int .i32) b488.1 b488.2 ((l432.getD t483.toNat zS37).f3)] _ := ⟨_, _, hS.re [3, 3, 2] [] rfl sub_self⟩
          refine ⟨hC, ?_⟩
          refine ED.quick hN hF hC [6] [2, 4, 15, 16, 21, 26, 32] 7 [(2, .pointer (some ⟨g469, 0, none⟩)), (4, .pointer (some ⟨g489, 0, none⟩)), (15, .pointer (some ⟨g431, 0, none⟩)), (16, .pointer (some ⟨g431, 0, none⟩)), (21, .int .i64 (IntKind.i64.wrap (t481 + 1))), (26, .int .i64 (l432.length : Int)), (32, .int .i64 (IntKind.i64.wrap (t482 - 1)))] #[true, true, true, true, true, true, true, true, true, true, true, true, false, true, true, true, true, true, false, false, false, false, false, false] (by kernel_rfl) (by kernel_rfl) ?_
          refine ED.Y hN hF hC 12 6 #[true, true, true, true, true, true, true, true, true, true, true, true, true, true, true, true, true, true, false, false, false, false, false, false] (by kernel_rfl) (by kernel_rfl) rfl (fun _ _ _ hS => YO.div .rem .i64 (IntKind.i64.wrap (t481 + 1)) (l432.length : Int) (Int.tmod (IntKind.i64.wrap (t481 + 1)) (l432.length : Int)) 27 (by kernel_rfl) (by kernel_rfl) (by kernel_rfl) h491 (by first | exact .inl ⟨rfl, rfl⟩ | exact .inr ⟨rfl, rfl⟩)) ?_
          refine ED.quick hN hF hC [18, 19] [2, 4, 16, 27, 32, 34] 4 [(2, .pointer (some ⟨g469, 0, none⟩)), (4, .pointer (some ⟨g489, 0, none⟩)), (16, .pointer (some ⟨g431, 0, none⟩)), (27, .int .i64 (Int.tmod (IntKind.i64.wrap (t481 + 1)) (l432.length : Int))), (32, .int .i64 (IntKind.i64.wrap (t482 - 1))), (34, .pointer (some ⟨g431, 1, none⟩))] #[true, true, true, true, true, true, true, true, true, true, true, true, true, true, true, true, true, true, true, true, false, false, false, false] (by kernel_rfl) (by kernel_rfl) ?_
          refine ED.one 20 3 #[true, true, true, true, true, true, true, true, true, true, true, true, true, true, true, true, true, true, true, true, true, false, false, false] (by kernel_rfl) (by kernel_rfl) (by kernel_rfl) (EO.storeBox (os' := Ass.box 37 g489 [.int .i32 ((l432.getD t483.toNat zS37).f0), .int .i64 ((l432.getD t483.toNat zS37).f1), .int .i64 ((l432.getD t483.toNat zS37).f2), .slice b488.1 ((l432.getD t483.toNat zS37).f3).length b488.2, .int .i32 ((l432.getD t483.toNat zS37).f4.f0), .int .i32 ((l432.getD t483.toNat zS37).f4.f1), .int .i32 ((l432.getD t483.toNat zS37).f4.f2), .int .i32 ((l432.getD t483.toNat zS37).f4.f3), .int .i64 ((l432.getD t483.toNat zS37).f5), .int .i64 ((l432.getD t483.toNat zS37).f6), .int .u32 ((l432.getD t483.toNat zS37).f7), .int .i64 ((l432.getD t483.toNat zS37).f8)] :: Ass.box 90 g431 [.slice (some ad487) l432.length C434, .int .i64 (Int.tmod (IntKind.i64.wrap (t481 + 1)) (l432.length : Int)), .int .i64 t482] :: Ass.own 37 kS37 (some ad487) C434 l432 :: Ass.box 37 g469 [.int .i32 0, .int .i64 0, .int .i64 0, .slice none ([] : List Int).length 0, .int .i32 0, .int .i32 0, .int .i32 0, .int .i32 0, .int .i64 0, .int .i64 0, .int .u32 0, .int .i64 0] :: os) hS 1 rfl 3 1 (.int .i64 (Int.tmod (IntKind.i64.wrap (t481 + 1)) (l432.length : Int))) [.slice (some ad487) l432.length C434, .int .i64 (Int.tmod (IntKind.i64.wrap (t481 + 1)) (l432.length : Int)), .int .i64 t482] (by kernel_rfl) (by kernel_rfl) (by kernel_rfl) (by kernel_rfl) (by kernel_rfl) (by kernel_rfl) rfl rfl ?_)
          intro w hS
          have hC : Core B [Ass.box 37 g489 [.int .i32 ((l432.getD t483.toNat zS37).f0), .int .i64 ((l432.getD t483.toNat zS37).f1), .int .i64 ((l432.getD t483.toNat zS37).f2), .slice b488.1 ((l432.getD t483.toNat zS37).f3).length b488.2, .int .i32 ((l432.getD t483.toNat zS37).f4.f0), .int .i32 ((l432.getD t483.toNat zS37).f4.f1), .int .i32 ((l432.getD t483.toNat zS37).f4.f2), .int .i32 ((l432.getD t483.toNat zS37).f4.f3), .int .i64 ((l432.getD t483.toNat zS37).f5), .int .i64 ((l432.getD t483.toNat zS37).f6), .int .u32 ((l432.getD t483.toNat zS37).f7), .int .i64 ((l432.getD t483.toNat zS37).f8)], Ass.own 37 kS37 (some ad487) C434 l432, Ass.box 37 g469 [.int .i32 0, .int .i64 0, .int .i64 0, .slice none ([] : List Int).length 0, .int .i32 0, .int .i32 0, .int .i32 0, .int .i32 0, .int .i64 0, .int .i64 0, .int .u32 0, .int .i64 0]] [Ro.sl (Kd.int .i32) b488.1 b488.2 ((l432.getD t483.toNat zS37).f3)] _ := ⟨_, _, hS.re [3, 3, 2] [] rfl sub_self⟩
          refine ⟨hC, ?_⟩
          refine ED.quick hN hF hC [21, 22] [2, 4, 32, 36] 1 [(2, .pointer (some ⟨g469, 0, none⟩)), (4, .pointer (some ⟨g489, 0, none⟩)), (32, .int .i64 (IntKind.i64.wrap (t482 - 1))), (36, .pointer (some ⟨g431, 2, none⟩))] #[true, true, true, true, true, true, true, true, true, true, true, true, true, true, true, true, true, true, true, true, true, true, true, false] (by kernel_rfl) (by kernel_rfl) ?_
          refine ED.one 23 0 #[true, true, true, true, true, true, true, true, true, true, true, true, true, true, true, true, true, true, true, true, true, true, true, true] (by kernel_rfl) (by kernel_rfl) (by kernel_rfl) (EO.storeBox (os' := Ass.box 37 g489 [.int .i32 ((l432.getD t483.toNat zS37).f0), .int .i64 ((l432.getD t483.toNat zS37).f1), .int .i64 ((l432.getD t483.toNat zS37).f2), .slice b488.1 ((l432.getD t483.toNat zS37).f3).length b488.2, .int .i32 ((l432.getD t483.toNat zS37).f4.f0), .int .i32 ((l432.getD t483.toNat zS37).f4.f1), .int .i32 ((l432.getD t483.toNat zS37).f4.f2), .int .i32 ((l432.getD t483.toNat zS37).f4.f3), .int .i64 ((l432.getD t483.toNat zS37).f5), .int .i64 ((l432.getD t483.toNat zS37).f6), .int .u32 ((l432.getD t483.toNat zS37).f7), .int .i64 ((l432.getD t483.toNat zS37).f8)] :: Ass.box 90 g431 [.slice (some ad487) l432.length C434, .int .i64 (Int.tmod (IntKind.i64.wrap (t481 + 1)) (l432.length : Int)), .int .i64 (IntKind.i64.wrap (t482 - 1))] :: Ass.own 37 kS37 (some ad487) C434 l432 :: Ass.box 37 g469 [.int .i32 0, .int .i64 0, .int .i64 0, .slice none ([] : List Int).length 0, .int .i32 0, .int .i32 0, .int .i32 0, .int .i32 0, .int .i64 0, .int .i64 0, .int .u32 0, .int .i64 0] :: os) hS 1 rfl 3 2 (.int .i64 (IntKind.i64.wrap (t482 - 1))) [.slice (some ad487) l432.length C434, .int .i64 (Int.tmod (IntKind.i64.wrap (t481 + 1)) (l432.length : Int)), .int .i64 (IntKind.i64.wrap (t482 - 1))] (by kernel_rfl) (by kernel_rfl) (by kernel_rfl) (by kernel_rfl) (by kernel_rfl) (by kernel_rfl) rfl rfl ?_)
          intro w hS
          have hC : Core B [Ass.box 37 g489 [.int .i32 ((l432.getD t483.toNat zS37).f0), .int .i64 ((l432.getD t483.toNat zS37).f1), .int .i64 ((l432.getD t483.toNat zS37).f2), .slice b488.1 ((l432.getD t483.toNat zS37).f3).length b488.2, .int .i32 ((l432.getD t483.toNat zS37).f4.f0), .int .i32 ((l432.getD t483.toNat zS37).f4.f1), .int .i32 ((l432.getD t483.toNat zS37).f4.f2), .int .i32 ((l432.getD t483.toNat zS37).f4.f3), .int .i64 ((l432.getD t483.toNat zS37).f5), .int .i64 ((l432.getD t483.toNat zS37).f6), .int .u32 ((l432.getD t483.toNat zS37).f7), .int .i64 ((l432.getD t483.toNat zS37).f8)], Ass.own 37 kS37 (some ad487) C434 l432, Ass.box 37 g469 [.int .i32 0, .int .i64 0, .int .i64 0, .slice none ([] : List Int).length 0, .int .i32 0, .int .i32 0, .int .i32 0, .int .i32 0, .int .i64 0, .int .i64 0, .int .u32 0, .int .i64 0]] [Ro.sl (Kd.int .i32) b488.1 b488.2 ((l432.getD t483.toNat zS37).f3)] _ := ⟨_, _, hS.re [3, 3, 2] [] rfl sub_self⟩
          refine ⟨hC, ?_⟩
          refine ED.done (by kernel_rfl) ?_
          refine EQ.to ?_
          refine EQ.keep [2, 4] [(2, .pointer (some ⟨g469, 0, none⟩)), (4, .pointer (some ⟨g489, 0, none⟩))] (by kernel_rfl) ?_
          exact fun a ha => ⟨ha, (hS.re [3, 3, 3, 3] [] rfl (sub_cons 0 rfl (sub_tail (sub_self))))⟩
    · obtain ⟨ha, hS⟩ := hI
      refine EQ.at ?_ a ha
      clear ha a
      refine EQ.code ?_
      refine EW.seq (x := Cd24.r.r.r.r.l) (y := Cd24.r.r.r.r.r) (by kernel_rfl) ?_
      refine EW.region (id := 5) (ops := Cd24.r.r.r.r.l.ops) (by kernel_rfl) ?_
      refine EL.of (EO.Y (YO.loadBox hS 0 rfl 37 0 12 (.agg #[.int .i32 ((l432.getD t483.toNat zS37).f0), .int .i64 ((l432.getD t483.toNat zS37).f1), .int .i64 ((l432.getD t483.toNat zS37).f2), .slice b488.1 ((l432.getD t483.toNat zS37).f3).length b488.2, .int .i32 ((l432.getD t483.toNat zS37).f4.f0), .int .i32 ((l432.getD t483.toNat zS37).f4.f1), .int .i32 ((l432.getD t483.toNat zS37).f4.f2), .int .i32 ((l432.getD t483.toNat zS37).f4.f3), .int .i64 ((l432.getD t483.toNat zS37).f5), .int .i64 ((l432.getD t483.toNat zS37).f6), .int .u32 ((l432.getD t483.toNat zS37).f7), .int .i64 ((l432.getD t483.toNat zS37).f8)]) 37 (by kernel_rfl) (by kernel_rfl) (by kernel_rfl) (by kernel_rfl)) ?_)
      refine EL.of (EO.storeBox (os' := Ass.box 37 g489 [.int .i32 ((l432.getD t483.toNat zS37).f0), .int .i64 ((l432.getD t483.toNat zS37).f1), .int .i64 ((l432.getD t483.toNat zS37).f2), .slice b488.1 ((l432.getD t483.toNat zS37).f3).length b488.2, .int .i32 ((l432.getD t483.toNat zS37).f4.f0), .int .i32 ((l432.getD t483.toNat zS37).f4.f1), .int .i32 ((l432.getD t483.toNat zS37).f4.f2), .int .i32 ((l432.getD t483.toNat zS37).f4.f3), .int .i64 ((l432.getD t483.toNat zS37).f5), .int .i64 ((l432.getD t483.toNat zS37).f6), .int .u32 ((l432.getD t483.toNat zS37).f7), .int .i64 ((l432.getD t483.toNat zS37).f8)] :: Ass.box 90 g431 [.slice (some ad487) l432.length C434, .int .i64 (Int.tmod (IntKind.i64.wrap (t481 + 1)) (l432.length : Int)), .int .i64 (IntKind.i64.wrap (t482 - 1))] :: Ass.own 37 kS37 (some ad487) C434 l432 :: Ass.box 37 g469 [.int .i32 ((l432.getD t483.toNat zS37).f0), .int .i64 ((l432.getD t483.toNat zS37).f1), .int .i64 ((l432.getD t483.toNat zS37).f2), .slice b488.1 ((l432.getD t483.toNat zS37).f3).length b488.2, .int .i32 ((l432.getD t483.toNat zS37).f4.f0), .int .i32 ((l432.getD t483.toNat zS37).f4.f1), .int .i32 ((l432.getD t483.toNat zS37).f4.f2), .int .i32 ((l432.getD t483.toNat zS37).f4.f3), .int .i64 ((l432.getD t483.toNat zS37).f5), .int .i64 ((l432.getD t483.toNat zS37).f6), .int .u32 ((l432.getD t483.toNat zS37).f7), .int .i64 ((l432.getD t483.toNat zS37).f8)] :: os) hS 3 rfl 37 0 (.agg #[.int .i32 ((l432.getD t483.toNat zS37).f0), .int .i64 ((l432.getD t483.toNat zS37).f1), .int .i64 ((l432.getD t483.toNat zS37).f2), .slice b488.1 ((l432.getD t483.toNat zS37).f3).length b488.2, .int .i32 ((l432.getD t483.toNat zS37).f4.f0), .int .i32 ((l432.getD t483.toNat zS37).f4.f1), .int .i32 ((l432.getD t483.toNat zS37).f4.f2), .int .i32 ((l432.getD t483.toNat zS37).f4.f3), .int .i64 ((l432.getD t483.toNat zS37).f5), .int .i64 ((l432.getD t483.toNat zS37).f6), .int .u32 ((l432.getD t483.toNat zS37).f7), .int .i64 ((l432.getD t483.toNat zS37).f8)]) [.int .i32 ((l432.getD t483.toNat zS37).f0), .int .i64 ((l432.getD t483.toNat zS37).f1), .int .i64 ((l432.getD t483.toNat zS37).f2), .slice b488.1 ((l432.getD t483.toNat zS37).f3).length b488.2, .int .i32 ((l432.getD t483.toNat zS37).f4.f0), .int .i32 ((l432.getD t483.toNat zS37).f4.f1), .int .i32 ((l432.getD t483.toNat zS37).f4.f2), .int .i32 ((l432.getD t483.toNat zS37).f4.f3), .int .i64 ((l432.getD t483.toNat zS37).f5), .int .i64 ((l432.getD t483.toNat zS37).f6), .int .u32 ((l432.getD t483.toNat zS37).f7), .int .i64 ((l432.getD t483.toNat zS37).f8)] (by kernel_rfl) (by kernel_rfl) (by kernel_rfl) (by kernel_rfl) (by kernel_rfl) (by kernel_rfl) rfl rfl ?_)
      intro w hS
      refine EL.quick 1 [2, 3] [(2, .pointer (some ⟨g469, 0, none⟩)), (3, .bool (true))] (by kernel_rfl) ?_
      refine EL.done (by kernel_rfl) ?_
      refine EQ.code ?_
      refine EW.ret (by kernel_rfl) ?_
      simp only [Option.some.injEq, Prod.mk.injEq] at H
      obtain ⟨rfl, rfl, rfl, rfl⟩ := H
      exact EQ.leave2 hS (.cell 2 37) (.tmp 3) (.agg #[.int .i32 ((l432.getD t483.toNat zS37).f0), .int .i64 ((l432.getD t483.toNat zS37).f1), .int .i64 ((l432.getD t483.toNat zS37).f2), .slice b488.1 ((l432.getD t483.toNat zS37).f3).length b488.2, .int .i32 ((l432.getD t483.toNat zS37).f4.f0), .int .i32 ((l432.getD t483.toNat zS37).f4.f1), .int .i32 ((l432.getD t483.toNat zS37).f4.f2), .int .i32 ((l432.getD t483.toNat zS37).f4.f3), .int .i64 ((l432.getD t483.toNat zS37).f5), .int .i64 ((l432.getD t483.toNat zS37).f6), .int .u32 ((l432.getD t483.toNat zS37).f7), .int .i64 ((l432.getD t483.toNat zS37).f8)]) (.bool (true)) (by kernel_rfl) ⟨3, 37, g469, [.int .i32 ((l432.getD t483.toNat zS37).f0), .int .i64 ((l432.getD t483.toNat zS37).f1), .int .i64 ((l432.getD t483.toNat zS37).f2), .slice b488.1 ((l432.getD t483.toNat zS37).f3).length b488.2, .int .i32 ((l432.getD t483.toNat zS37).f4.f0), .int .i32 ((l432.getD t483.toNat zS37).f4.f1), .int .i32 ((l432.getD t483.toNat zS37).f4.f2), .int .i32 ((l432.getD t483.toNat zS37).f4.f3), .int .i64 ((l432.getD t483.toNat zS37).f5), .int .i64 ((l432.getD t483.toNat zS37).f6), .int .u32 ((l432.getD t483.toNat zS37).f7), .int .i64 ((l432.getD t483.toNat zS37).f8)], 0, 12, rfl, (by kernel_rfl), (by kernel_rfl)⟩ (oneTmp (by kernel_rfl)) ⟨_, rfl, b488.1, b488.2, rfl, (hS.re [2, 2] [2, 2] rfl (sub_cons 0 rfl (sub_tail (sub_self))))⟩

/-! ### (*confidant/ring.Ring).Len: function 29 -/
def ring_Ring_Len.f (K : Nat) (l530 : List S37) (a534 : Int) (a535 : Int) : Option (Int × Int × Int) := some (a534, a535, a535)
set_option maxRecDepth 100000 in
theorem ring_Ring_Len.calls {K : Nat} {l530 : List S37} {a534 : Int} {a535 : Int} {g529 : Nat} {A531 : Option Addr} {C532 : Nat} {x536 : Int} {x537 : Int} {x538 : Int} {B w : World} {os : List Ass} {rs : List Ro} (H : ring_Ring_Len.f K l530 a534 a535 = some (x536, x537, x538)) (hS : St B w (Ass.box 90 g529 [.slice A531 l530.length C532, .int .i64 a534, .int .i64 a535] :: Ass.own 37 kS37 A531 C532 l530 :: os) (rs)) :
    Calls Try.prog 29 [.pointer (some ⟨g529, 0, none⟩)].toArray w (fun en w' => ∃ v, en = .returned v ∧ v = .int .i64 x538 ∧ St B w' (Ass.box 90 g529 [.slice A531 l530.length C532, .int .i64 x536, .int .i64 x537] :: Ass.own 37 kS37 A531 C532 l530 :: os) (rs)) := by
  unfold ring_Ring_Len.f at H
  refine calls_of_EW (args := [.pointer (some ⟨g529, 0, none⟩)]) (c := Cd29) 7 Try.func29 (by kernel_rfl) (by kernel_rfl) (by kernel_rfl) ?_
  refine EW.seq (x := Cd29.l) (y := Cd29.r) (by kernel_rfl) ?_
  refine EW.region (id := 0) (ops := Cd29.l.ops) (by kernel_rfl) ?_
  refine EL.quick 1 [0] [(0, .pointer (some ⟨g529, 0, none⟩))] (by kernel_rfl) ?_
  refine EL.done (by kernel_rfl) ?_
  refine EQ.code ?_
  refine EW.seq (x := Cd29.r.l) (y := Cd29.r.r) (by kernel_rfl) ?_
  refine EW.region (id := 1) (ops := Cd29.r.l.ops) (by kernel_rfl) ?_
  refine EL.quick 3 [5] [(5, .pointer (some ⟨g529, 2, none⟩))] (by kernel_rfl) ?_
  refine EL.of (EO.Y (YO.loadBox hS 0 rfl 3 2 1 (.int .i64 a535) 6 (by kernel_rfl) (by kernel_rfl) (by kernel_rfl) (by kernel_rfl)) ?_)
  refine EL.quick 1 [2] [(2, .int .i64 a535)] (by kernel_rfl) ?_
  refine EL.done (by kernel_rfl) ?_
  refine EQ.code ?_
  refine EW.ret (by kernel_rfl) ?_
  simp only [Option.some.injEq, Prod.mk.injEq] at H
  obtain ⟨rfl, rfl, rfl⟩ := H
  exact EQ.leave (.int .i64 a535) (by kernel_rfl) ⟨_, rfl, rfl, (hS.re [1, 1] [] rfl (sub_self))⟩

/-! ### (*confidant/ring.Ring).Room: function 18 -/
def ring_Ring_Room.f (K : Nat) (l546 : List S37) (a550 : Int) (a551 : Int) : Option (Int × Int × Int) := some (a550, a551, (l546.length : Int))
set_option maxRecDepth 100000 in
theorem ring_Ring_Room.calls {K : Nat} {l546 : List S37} {a550 : Int} {a551 : Int} {g545 : Nat} {A547 : Option Addr} {C548 : Nat} {x552 : Int} {x553 : Int} {x554 : Int} {B w : World} {os : List Ass} {rs : List Ro} (H : ring_Ring_Room.f K l546 a550 a551 = some (x552, x553, x554)) (hS : St B w (Ass.box 90 g545 [.slice A547 l546.length C548, .int .i64 a550, .int .i64 a551] :: Ass.own 37 kS37 A547 C548 l546 :: os) (rs)) :
    Calls Try.prog 18 [.pointer (some ⟨g545, 0, none⟩)].toArray w (fun en w' => ∃ v, en = .returned v ∧ v = .int .i64 x554 ∧ St B w' (Ass.box 90 g545 [.slice A547 l546.length C548, .int .i64 x552, .int .i64 x553] :: Ass.own 37 kS37 A547 C548 l546 :: os) (rs)) := by
  unfold ring_Ring_Room.f at H
  refine calls_of_EW (args := [.pointer (some ⟨g545, 0, none⟩)]) (c := Cd18) 8 Try.func18 (by kernel_rfl) (by kernel_rfl) (by kernel_rfl) ?_
  refine EW.seq (x := Cd18.l) (y := Cd18.r) (by kernel_rfl) ?_
  refine EW.region (id := 0) (ops := Cd18.l.ops) (by kernel_rfl) ?_
  refine EL.quick 1 [0] [(0, .pointer (some ⟨g545, 0, none⟩))] (by kernel_rfl) ?_
  refine EL.done (by kernel_rfl) ?_
  refine EQ.code ?_
  refine EW.seq (x := Cd18.r.l) (y := Cd18.r.r) (by kernel_rfl) ?_
  refine EW.region (id := 1) (ops := Cd18.r.l.ops) (by kernel_rfl) ?_
  refine EL.quick 3 [5] [(5, .pointer (some ⟨g545, 0, none⟩))] (by kernel_rfl) ?_
  refine EL.of (EO.Y (YO.loadBox hS 0 rfl 30 0 1 (.slice A547 l546.length C548) 6 (by kernel_rfl) (by kernel_rfl) (by kernel_rfl) (by kernel_rfl)) ?_)
  refine EL.quick 2 [2] [(2, .int .i64 (l546.length : Int))] (by kernel_rfl) ?_
  refine EL.done (by kernel_rfl) ?_
  refine EQ.code ?_
  refine EW.ret (by kernel_rfl) ?_
  simp only [Option.some.injEq, Prod.mk.injEq] at H
  obtain ⟨rfl, rfl, rfl⟩ := H
  exact EQ.leave (.int .i64 (l546.length : Int)) (by kernel_rfl) ⟨_, rfl, rfl, (hS.re [1, 1] [] rfl (sub_self))⟩

/-! ### (*confidant/ring.Ring).All: function 30 -/
def ring_Ring_All.l0 (K : Nat) (a567 : Int) (l562 : List S37) : Nat → Int → Int → (List S37) → Int → Option (Int × Int × List S37)
  | 0, _, _, _, _ => none
  | n + 1, x891, x892, x893, x897 => if x897 < a567 then (b3 (ring_Ring_at.f K l562 x891 x892 x897) fun (t969 : Int) (t970 : Int) (t971 : Int) => (b1 (ring_copied.f K ((l562.getD t971.toNat zS37).f0) ((l562.getD t971.toNat zS37).f1) ((l562.getD t971.toNat zS37).f2) ((l562.getD t971.toNat zS37).f3) ((l562.getD t971.toNat zS37).f4.f0) ((l562.getD t971.toNat zS37).f4.f1) ((l562.getD t971.toNat zS37).f4.f2) ((l562.getD t971.toNat zS37).f4.f3) ((l562.getD t971.toNat zS37).f5) ((l562.getD t971.toNat zS37).f6) ((l562.getD t971.toNat zS37).f7) ((l562.getD t971.toNat zS37).f8)) fun (t977 : S37) => (lt ([(⟨t977.f0, t977.f1, t977.f2, t977.f3, (⟨t977.f4.f0, t977.f4.f1, t977.f4.f2, t977.f4.f3⟩ : S34), t977.f5, t977.f6, t977.f7, t977.f8⟩ : S37)] : List S37) fun l982 => (if (x893.length + l982.length) * 96 ≤ 140737488355328 then (lt (x893 ++ l982) fun l984 => (ring_Ring_All.l0 K a567 l562 n t969 t970 l984 (IntKind.i64.wrap (x897 + 1)))) else none)))) else (some (x891, x892, x893))
def ring_Ring_All.f (K : Nat) (l562 : List S37) (a566 : Int) (a567 : Int) : Option (Int × Int × List S37) := ring_Ring_All.l0 K a567 l562 K a566 a567 ([] : List S37) 0
set_option maxRecDepth 100000 in
theorem ring_Ring_All.calls {K : Nat} {l562 : List S37} {a566 : Int} {a567 : Int} {g561 : Nat} {A563 : Option Addr} {C564 : Nat} {x774 : Int} {x775 : Int} {x776 : List S37} {B w : World} {os : List Ass} {rs : List Ro} (H : ring_Ring_All.f K l562 a566 a567 = some (x774, x775, x776)) (hS : St B w (Ass.box 90 g561 [.slice A563 l562.length C564, .int .i64 a566, .int .i64 a567] :: Ass.own 37 kS37 A563 C564 l562 :: os) (rs)) :
    Calls Try.prog 30 [.pointer (some ⟨g561, 0, none⟩)].toArray w (fun en w' => ∃ v, en = .returned v ∧ ∃ A777 : Option Addr, ∃ C778 : Nat, v = .slice A777 x776.length C778 ∧ St B w' (Ass.box 90 g561 [.slice A563 l562.length C564, .int .i64 x774, .int .i64 x775] :: Ass.own 37 kS37 A563 C564 l562 :: Ass.own 37 kS37 A777 C778 x776 :: os) (rs)) := by
  unfold ring_Ring_All.f at H
  refine calls_of_EW (args := [.pointer (some ⟨g561, 0, none⟩)]) (c := Cd30) 23 Try.func30 (by kernel_rfl) (by kernel_rfl) (by kernel_rfl) ?_
  refine EW.seq (x := Cd30.l) (y := Cd30.r) (by kernel_rfl) ?_
  refine EW.region (id := 0) (ops := Cd30.l.ops) (by kernel_rfl) ?_
  refine EL.quick 1 [0] [(0, .pointer (some ⟨g561, 0, none⟩))] (by kernel_rfl) ?_
  refine EL.done (by kernel_rfl) ?_
  refine EQ.code ?_
  refine EW.seq (x := Cd30.r.l) (y := Cd30.r.r) (by kernel_rfl) ?_
  refine EW.region (id := 1) (ops := Cd30.r.l.ops) (by kernel_rfl) ?_
  refine EL.quick 1 [0, 3] [(0, .pointer (some ⟨g561, 0, none⟩)), (3, .slice none ([] : List S37).length 0)] (by kernel_rfl) ?_
  refine EL.done (by kernel_rfl) ?_
  refine EQ.code ?_
  refine EW.seq (x := Cd30.r.r.l) (y := Cd30.r.r.r) (by kernel_rfl) ?_
  refine EW.seq (x := Cd30.r.r.l.l) (y := Cd30.r.r.l.r) (by kernel_rfl) ?_
  refine EW.region (id := 2) (ops := Cd30.r.r.l.l.ops) (by kernel_rfl) ?_
  refine EL.quick 3 [0, 3, 7] [(0, .pointer (some ⟨g561, 0, none⟩)), (3, .slice none ([] : List S37).length 0), (7, .pointer (some ⟨g561, 2, none⟩))] (by kernel_rfl) ?_
  refine EL.of (EO.Y (YO.loadBox hS 0 rfl 3 2 1 (.int .i64 a567) 8 (by kernel_rfl) (by kernel_rfl) (by kernel_rfl) (by kernel_rfl)) ?_)
  refine EL.quick 1 [0, 3, 8, 9] [(0, .pointer (some ⟨g561, 0, none⟩)), (3, .slice none ([] : List S37).length 0), (8, .int .i64 a567), (9, .int .i64 0)] (by kernel_rfl) ?_
  refine EL.done (by kernel_rfl) ?_
  refine EQ.code ?_
  refine EW.block (x := Cd30.r.r.l.r.l) (id := 0) (by kernel_rfl) ?_
  have hS := St.nilO hS 37 kS37
  refine EW.loop (x := Cd30.r.r.l.r.l.l) (fun n a w => ∃ x891 : Int, ∃ x892 : Int, ∃ x893 : List S37, ∃ x897 : Int, ∃ A894 : Option Addr, ∃ C895 : Nat, Sat 23 [(0, .pointer (some ⟨g561, 0, none⟩)), (3, .slice A894 x893.length C895), (8, .int .i64 a567), (9, .int .i64 x897)] a ∧ St B w (Ass.box 90 g561 [.slice A563 l562.length C564, .int .i64 x891, .int .i64 x892] :: Ass.own 37 kS37 A563 C564 l562 :: Ass.own 37 kS37 A894 C895 x893 :: os) (rs) ∧ ring_Ring_All.l0 K a567 l562 n x891 x892 x893 x897 = some (x774, x775, x776)) K (by kernel_rfl) ?_ (fun n a w hI => ?_)
  · refine EQ.keep [0, 3, 8, 9] [(0, .pointer (some ⟨g561, 0, none⟩)), (3, .slice none ([] : List S37).length 0), (8, .int .i64 a567), (9, .int .i64 0)] (by kernel_rfl) ?_
    exact fun a ha => ⟨a566, a567, ([] : List S37), 0, none, 0, ha, (hS.re [0, 2, 2] [] rfl (sub_self)), H⟩
  · obtain ⟨x891, x892, x893, x897, A894, C895, ha, hS, H⟩ := hI
    obtain _ | n := n
    · simp [ring_Ring_All.l0] at H
    rw [ring_Ring_All.l0.eq_2] at H
    refine EW.at ?_ a ha
    clear ha a
    refine EW.seq (x := Cd30.r.r.l.r.l.l.l) (y := Cd30.r.r.l.r.l.l.r) (by kernel_rfl) ?_
    refine EW.region (id := 3) (ops := Cd30.r.r.l.r.l.l.l.ops) (by kernel_rfl) ?_
    refine EL.quick 1 [0, 3, 8, 9, 10] [(0, .pointer (some ⟨g561, 0, none⟩)), (3, .slice A894 x893.length C895), (8, .int .i64 a567), (9, .int .i64 x897), (10, .bool (decide (x897 < a567)))] (by kernel_rfl) ?_
    refine EL.done (by kernel_rfl) ?_
    refine EQ.code ?_
    refine EW.seq (x := Cd30.r.r.l.r.l.l.r.l) (y := Cd30.r.r.l.r.l.l.r.r) (by kernel_rfl) ?_
    refine EW.condP (o := (.tmp 10)) (x := Cd30.r.r.l.r.l.l.r.l.l) (y := Cd30.r.r.l.r.l.l.r.l.r) (x897 < a567) (by kernel_rfl) (by kernel_rfl) (fun h950 => ?_) (fun h950 => ?_)
    · rw [if_pos h950] at H
      refine EW.skip (by kernel_rfl) ?_
      refine EQ.code ?_
      refine EW.seq (x := Cd30.r.r.l.r.l.l.r.r.l) (y := Cd30.r.r.l.r.l.l.r.r.r) (by kernel_rfl) ?_
      refine EW.block (x := Cd30.r.r.l.r.l.l.r.r.l.l) (id := 1) (by kernel_rfl) ?_
      refine EW.seq (x := Cd30.r.r.l.r.l.l.r.r.l.l.l) (y := Cd30.r.r.l.r.l.l.r.r.l.l.r) (by kernel_rfl) ?_
      refine EW.region (id := 4) (ops := Cd30.r.r.l.r.l.l.r.r.l.l.l.ops) (by kernel_rfl) ?_
      refine EL.quick 2 [0, 3, 4, 8, 9] [(0, .pointer (some ⟨g561, 0, none⟩)), (3, .slice A894 x893.length C895), (4, .int .i64 x897), (8, .int .i64 a567), (9, .int .i64 x897)] (by kernel_rfl) ?_
      refine EL.done (by kernel_rfl) ?_
      refine EQ.code ?_
      refine EW.region (id := 5) (ops := Cd30.r.r.l.r.l.l.r.r.l.l.r.ops) (by kernel_rfl) ?_
      refine EL.quick 3 [0, 8, 9, 12, 13, 14] [(0, .pointer (some ⟨g561, 0, none⟩)), (8, .int .i64 a567), (9, .int .i64 x897), (12, .slice A894 x893.length C895), (13, .pointer (some ⟨g561, 0, none⟩)), (14, .int .i64 x897)] (by kernel_rfl) ?_
      obtain ⟨t969, t970, t971, hc972, H⟩ := b3_out H
      refine EL.of (EO.callD 59 [.pointer (some ⟨g561, 0, none⟩), .int .i64 x897] _ 15 (by kernel_rfl) (by kernel_rfl) (by kernel_rfl) (ring_Ring_at.calls hc972 hS) ?_)
      rintro v w ⟨rfl, h973, h974, hS⟩
      obtain ⟨ad975, rfl⟩ := St.rd_some hS (Rd.own 1 37 rfl) h973 h974
      refine EL.quick 1 [0, 8, 9, 12, 16] [(0, .pointer (some ⟨g561, 0, none⟩)), (8, .int .i64 a567), (9, .int .i64 x897), (12, .slice A894 x893.length C895), (16, .pointer (some ((ad975.add (t971.toNat * 12)).add 0)))] (by kernel_rfl) ?_
      refine EL.of (EO.loadPt hS kS37 ad975 C564 l562 (Rd.own 1 37 rfl) zS37 cellsS37 factsS37 partsS37 t971 h973 h974 37 12 0 12 rfl (fun b976 => .agg #[.int .i32 ((l562.getD t971.toNat zS37).f0), .int .i64 ((l562.getD t971.toNat zS37).f1), .int .i64 ((l562.getD t971.toNat zS37).f2), .slice b976.1 ((l562.getD t971.toNat zS37).f3).length b976.2, .int .i32 ((l562.getD t971.toNat zS37).f4.f0), .int .i32 ((l562.getD t971.toNat zS37).f4.f1), .int .i32 ((l562.getD t971.toNat zS37).f4.f2), .int .i32 ((l562.getD t971.toNat zS37).f4.f3), .int .i64 ((l562.getD t971.toNat zS37).f5), .int .i64 ((l562.getD t971.toNat zS37).f6), .int .u32 ((l562.getD t971.toNat zS37).f7), .int .i64 ((l562.getD t971.toNat zS37).f8)]) 17 (by kernel_rfl) (by kernel_rfl) (by kernel_rfl) (fun b976 => (by kernel_rfl)) ?_)
      intro b976 hS
      have hS : St B _ (Ass.box 90 g561 [.slice (some ad975) l562.length C564, .int .i64 t969, .int .i64 t970] :: Ass.own 37 kS37 (some ad975) C564 l562 :: Ass.own 37 kS37 A894 C895 x893 :: os) (Ro.sl (Kd.int .i32) b976.1 b976.2 ((l562.getD t971.toNat zS37).f3) :: Ro.sl (Kd.int .i32) b976.1 b976.2 ((l562.getD t971.toNat zS37).f3) :: rs) := hS.re [] [] rfl (sub_cons 0 rfl sub_self)
      obtain ⟨t977, hc980, H⟩ := b1_out H
      refine EL.of (EO.callD 58 [.agg #[.int .i32 ((l562.getD t971.toNat zS37).f0), .int .i64 ((l562.getD t971.toNat zS37).f1), .int .i64 ((l562.getD t971.toNat zS37).f2), .slice b976.1 ((l562.getD t971.toNat zS37).f3).length b976.2, .int .i32 ((l562.getD t971.toNat zS37).f4.f0), .int .i32 ((l562.getD t971.toNat zS37).f4.f1), .int .i32 ((l562.getD t971.toNat zS37).f4.f2), .int .i32 ((l562.getD t971.toNat zS37).f4.f3), .int .i64 ((l562.getD t971.toNat zS37).f5), .int .i64 ((l562.getD t971.toNat zS37).f6), .int .u32 ((l562.getD t971.toNat zS37).f7), .int .i64 ((l562.getD t971.toNat zS37).f8)]] _ 18 (by kernel_rfl) (by kernel_rfl) (by kernel_rfl) (ring_copied.calls hc980 hS) ?_)
      rintro v w ⟨A978, C979, rfl, hS⟩
      obtain ⟨l982, hl982, H⟩ := lt_out H
      refine EL.of (EO.lit hS kS37 37 30 1 #[(0, .agg #[.int .i32 t977.f0, .int .i64 t977.f1, .int .i64 t977.f2, .slice A978 t977.f3.length C979, .int .i32 t977.f4.f0, .int .i32 t977.f4.f1, .int .i32 t977.f4.f2, .int .i32 t977.f4.f3, .int .i64 t977.f5, .int .i64 t977.f6, .int .u32 t977.f7, .int .i64 t977.f8])] [.int .i32 t977.f0, .int .i64 t977.f1, .int .i64 t977.f2, .slice A978 t977.f3.length C979, .int .i32 t977.f4.f0, .int .i32 t977.f4.f1, .int .i32 t977.f4.f2, .int .i32 t977.f4.f3, .int .i64 t977.f5, .int .i64 t977.f6, .int .u32 t977.f7, .int .i64 t977.f8] l982 19 (by kernel_rfl) (by kernel_rfl) (by kernel_rfl) (fun _ => (by kernel_rfl)) (by rw [hl982]; rfl) (by kernel_rfl) (fun w G hr => (by rw [hl982]; exact ⟨[.int .i32 t977.f0, .int .i64 t977.f1, .int .i64 t977.f2, .slice A978 t977.f3.length C979, .int .i32 t977.f4.f0, .int .i32 t977.f4.f1, .int .i32 t977.f4.f2, .int .i32 t977.f4.f3, .int .i64 t977.f5, .int .i64 t977.f6, .int .u32 t977.f7, .int .i64 t977.f8], [], rfl, ⟨[.int .i32 t977.f0], [.int .i64 t977.f1, .int .i64 t977.f2, .slice A978 t977.f3.length C979, .int .i32 t977.f4.f0, .int .i32 t977.f4.f1, .int .i32 t977.f4.f2, .int .i32 t977.f4.f3, .int .i64 t977.f5, .int .i64 t977.f6, .int .u32 t977.f7, .int .i64 t977.f8], rfl, rfl, ⟨[.int .i64 t977.f1], [.int .i64 t977.f2, .slice A978 t977.f3.length C979, .int .i32 t977.f4.f0, .int .i32 t977.f4.f1, .int .i32 t977.f4.f2, .int .i32 t977.f4.f3, .int .i64 t977.f5, .int .i64 t977.f6, .int .u32 t977.f7, .int .i64 t977.f8], rfl, rfl, ⟨[.int .i64 t977.f2], [.slice A978 t977.f3.length C979, .int .i32 t977.f4.f0, .int .i32 t977.f4.f1, .int .i32 t977.f4.f2, .int .i32 t977.f4.f3, .int .i64 t977.f5, .int .i64 t977.f6, .int .u32 t977.f7, .int .i64 t977.f8], rfl, rfl, ⟨[.slice A978 t977.f3.length C979], [.int .i32 t977.f4.f0, .int .i32 t977.f4.f1, .int .i32 t977.f4.f2, .int .i32 t977.f4.f3, .int .i64 t977.f5, .int .i64 t977.f6, .int .u32 t977.f7, .int .i64 t977.f8], rfl, (hr _ (List.mem_of_getElem? (i := 0) rfl)), ⟨[.int .i32 t977.f4.f0, .int .i32 t977.f4.f1, .int .i32 t977.f4.f2, .int .i32 t977.f4.f3], [.int .i64 t977.f5, .int .i64 t977.f6, .int .u32 t977.f7, .int .i64 t977.f8], rfl, ⟨[.int .i32 t977.f4.f0], [.int .i32 t977.f4.f1, .int .i32 t977.f4.f2, .int .i32 t977.f4.f3], rfl, rfl, ⟨[.int .i32 t977.f4.f1], [.int .i32 t977.f4.f2, .int .i32 t977.f4.f3], rfl, rfl, ⟨[.int .i32 t977.f4.f2], [.int .i32 t977.f4.f3], rfl, rfl, ⟨[.int .i32 t977.f4.f3], [], rfl, rfl, rfl⟩⟩⟩⟩, ⟨[.int .i64 t977.f5], [.int .i64 t977.f6, .int .u32 t977.f7, .int .i64 t977.f8], rfl, rfl, ⟨[.int .i64 t977.f6], [.int .u32 t977.f7, .int .i64 t977.f8], rfl, rfl, ⟨[.int .u32 t977.f7], [.int .i64 t977.f8], rfl, rfl, ⟨[.int .i64 t977.f8], [], rfl, rfl, rfl⟩⟩⟩⟩⟩⟩⟩⟩⟩, rfl⟩)) ?_)
      intro g981 w hS
      obtain ⟨h983, H⟩ := ite_in H
      obtain ⟨l984, hl984, H⟩ := lt_out H
      refine EL.of (EO.append hS 30 30 37 96 3 kS37 A894 C895 x893 rfl (some ⟨g981, 0, none⟩) 1 l982 (Rd.own 0 37 rfl) l984 hl984 (fun A985 C986 => Ass.own 37 kS37 (some ⟨g981, 0, none⟩) 1 l982 :: Ass.box 90 g561 [.slice (some ad975) l562.length C564, .int .i64 t969, .int .i64 t970] :: Ass.own 37 kS37 (some ad975) C564 l562 :: Ass.own 37 kS37 A985 C986 l984 :: os) 20 (by kernel_rfl) (by kernel_rfl) (by kernel_rfl) (by kernel_rfl) h983 (fun _ _ => rfl) ?_)
      intro A985 C986 w hS
      refine EL.quick 1 [0, 3, 8, 9] [(0, .pointer (some ⟨g561, 0, none⟩)), (3, .slice A985 l984.length C986), (8, .int .i64 a567), (9, .int .i64 x897)] (by kernel_rfl) ?_
      refine EL.done (by kernel_rfl) ?_
      refine EQ.pop ?_
      refine EQ.code ?_
      refine EW.region (id := 6) (ops := Cd30.r.r.l.r.l.l.r.r.r.ops) (by kernel_rfl) ?_
      refine EL.quick 2 [0, 3, 8, 9] [(0, .pointer (some ⟨g561, 0, none⟩)), (3, .slice A985 l984.length C986), (8, .int .i64 a567), (9, .int .i64 (IntKind.i64.wrap (x897 + 1)))] (by kernel_rfl) ?_
      refine EL.done (by kernel_rfl) ?_
      refine EQ.to ?_
      refine EQ.keep [0, 3, 8, 9] [(0, .pointer (some ⟨g561, 0, none⟩)), (3, .slice A985 l984.length C986), (8, .int .i64 a567), (9, .int .i64 (IntKind.i64.wrap (x897 + 1)))] (by kernel_rfl) ?_
      exact fun a ha => ⟨n, Nat.lt_succ_self n, t969, t970, l984, IntKind.i64.wrap (x897 + 1), A985, C986, ha, (hS.re [3, 3, 3] [3] rfl (sub_tail (sub_tail (sub_tail (sub_self))))), H⟩
    · rw [if_neg h950] at H
      refine EW.exit (id := 0) (by kernel_rfl) ?_
      refine EQ.exitCode ?_
      refine EQ.exitTo ?_
      refine EQ.exitHere ?_
      refine EQ.code ?_
      refine EW.seq (x := Cd30.r.r.r.l) (y := Cd30.r.r.r.r) (by kernel_rfl) ?_
      refine EW.region (id := 7) (ops := Cd30.r.r.r.l.ops) (by kernel_rfl) ?_
      refine EL.quick 2 [2] [(2, .slice A894 x893.length C895)] (by kernel_rfl) ?_
      refine EL.done (by kernel_rfl) ?_
      refine EQ.code ?_
      refine EW.ret (by kernel_rfl) ?_
      simp only [Option.some.injEq, Prod.mk.injEq] at H
      obtain ⟨rfl, rfl, rfl⟩ := H
      exact EQ.leave (.slice A894 x893.length C895) (by kernel_rfl) ⟨_, rfl, A894, C895, rfl, (hS.re [2, 2, 2] [] rfl (sub_self))⟩

end Go.Proofs.Ytjfnejcanlkknaa.G
