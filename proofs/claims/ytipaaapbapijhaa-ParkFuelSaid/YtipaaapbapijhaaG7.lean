import Derived.Test.YtipaaapbapijhaaProg
import Derived.Test.YtipaaapbapijhaaFwEq
import Derived.Test.YtipaaapbapijhaaFwOpen
import Derived.Test.YtipaaapbapijhaaG0
namespace Go.Proofs.Ytipaaapbapijhaa.G
open Go Go.Fw Go.RowKit Go.Proofs
set_option linter.unusedVariables false
set_option linter.unusedSimpArgs false

structure S51 where
  f0 : Int
  f1 : Int
  f2 : Int
  f3 : Int
deriving DecidableEq
def zS51 : S51 := ⟨0, 0, 0, 0⟩
def kS51 : Kd S51 := Kd.iso (Kd.prod (Kd.int .u8) (Kd.prod (Kd.int .u8) (Kd.prod (Kd.int .u8) (Kd.prod (Kd.int .i32) Kd.unit)))) (fun s => (s.f0, s.f1, s.f2, s.f3, ()))
def encS51 (s : S51) : List Value := [.int .u8 s.f0, .int .u8 s.f1, .int .u8 s.f2, .int .i32 s.f3]
theorem encS51_of (w : World) (G : Bl) (vs : List Value) (x : S51) (h : kS51.rep w G vs x) : vs = encS51 x := by
  obtain ⟨_, _, rfl, h0, ⟨_, _, rfl, h1, ⟨_, _, rfl, h2, ⟨_, _, rfl, h3, hu⟩⟩⟩⟩ := h
  have h0 := encI_of _ _ _ _ h0
  have h1 := encI_of _ _ _ _ h1
  have h2 := encI_of _ _ _ _ h2
  have h3 := encI_of _ _ _ _ h3
  have hu : _ = [] := hu
  subst hu
  subst h0
  subst h1
  subst h2
  subst h3
  rfl

structure S53 where
  f0 : S36
  f1 : Int

def zS53 : S53 := ⟨zS36, 0⟩
def kS53 : Kd S53 := Kd.iso (Kd.prod kS36 (Kd.prod (Kd.int .i32) Kd.unit)) (fun s => (s.f0, s.f1, ()))
def cellsS53 (x : S53) (b : (Option Addr × Nat)) : List Value := [.int .i32 x.f0.f0, .int .i64 x.f0.f1, .int .i64 x.f0.f2, .slice b.1 x.f0.f3.length b.2, .int .i32 x.f0.f4.f0, .int .i32 x.f0.f4.f1, .int .i32 x.f0.f4.f2, .int .i32 x.f0.f4.f3, .int .i64 x.f0.f5, .int .i64 x.f0.f6, .int .u32 x.f0.f7, .int .i64 x.f0.f8, .int .i32 x.f1]
def factsS53 (x : S53) (b : (Option Addr × Nat)) : List Ro := [Ro.sl (Kd.int .i32) b.1 b.2 x.f0.f3]
theorem partsS53 (w : World) (G : Bl) (vs : List Value) (x : S53) (h : kS53.rep w G vs x) : ∃ b, vs = cellsS53 x b ∧ ∀ r ∈ factsS53 x b, r.holds w G := by
  obtain ⟨_, _, rfl, h1, ⟨_, _, rfl, h2, hu3⟩⟩ := h
  have hu3 : _ = [] := hu3
  subst hu3
  obtain ⟨_, _, rfl, h4, ⟨_, _, rfl, h5, ⟨_, _, rfl, h6, ⟨_, _, rfl, h7, ⟨_, _, rfl, h8, ⟨_, _, rfl, h9, ⟨_, _, rfl, h10, ⟨_, _, rfl, h11, ⟨_, _, rfl, h12, hu13⟩⟩⟩⟩⟩⟩⟩⟩⟩ := h1
  have hu13 : _ = [] := hu13
  subst hu13
  have h4 := encI_of _ _ _ _ h4
  subst h4
  have h5 := encI_of _ _ _ _ h5
  subst h5
  have h6 := encI_of _ _ _ _ h6
  subst h6
  obtain ⟨A_h7, C_h7, rfl, r_h7⟩ := h7
  have h8 := encS33_of _ _ _ _ h8
  subst h8
  have h9 := encI_of _ _ _ _ h9
  subst h9
  have h10 := encI_of _ _ _ _ h10
  subst h10
  have h11 := encI_of _ _ _ _ h11
  subst h11
  have h12 := encI_of _ _ _ _ h12
  subst h12
  have h2 := encI_of _ _ _ _ h2
  subst h2
  refine ⟨(A_h7, C_h7), rfl, fun r hr => ?_⟩
  simp only [factsS53, List.mem_cons, List.mem_nil_iff, or_false] at hr
  rcases hr with rfl
  · exact ⟨A_h7, C_h7, rfl, r_h7⟩

noncomputable def Cd5 : Code := bodyOf Try.f5

noncomputable def Cd18 : Code := bodyOf Try.f18

noncomputable def Cd19 : Code := bodyOf Try.f19

noncomputable def Cd20 : Code := bodyOf Try.f20

noncomputable def Cd21 : Code := bodyOf Try.f21

noncomputable def Cd22 : Code := bodyOf Try.f22

noncomputable def Cd23 : Code := bodyOf Try.f23

noncomputable def Cd24 : Code := bodyOf Try.f24

noncomputable def Cd26 : Code := bodyOf Try.f26

noncomputable def Cd46 : Code := bodyOf Try.f46

noncomputable def Cd47 : Code := bodyOf Try.f47

noncomputable def Cd48 : Code := bodyOf Try.f48

noncomputable def Cd49 : Code := bodyOf Try.f49

noncomputable def Cd50 : Code := bodyOf Try.f50

noncomputable def Cd67 : Code := bodyOf Try.f67

noncomputable def Cd68 : Code := bodyOf Try.f68

noncomputable def Cd69 : Code := bodyOf Try.f69

/-! ### confidant/confidantref12.quotas: function 46 -/
def confidantref12_quotas.l0 (K : Nat) (l36 : List Int) : Nat → (List Int) → Int → Option (List Int)
  | 0, _, _ => none
  | n + 1, x294, x298 => lt (fun (x350 : Bool) => (if x350 = true then (if 0 ≤ x298 then (if x298 < (l36.length : Int) then (lt ([mn (mx (l36.getD x298.toNat 0) 0) 4096] : List Int) fun l367 => (if (x294.length + l367.length) * 8 ≤ 140737488355328 then (lt (x294 ++ l367) fun l369 => (confidantref12_quotas.l0 K l36 n l369 (IntKind.i64.wrap (x298 + 1)))) else none)) else none) else none) else (some x294))) fun j351 => (if x298 < (l36.length : Int) then (j351 (decide (x298 < 16))) else (j351 false))
def confidantref12_quotas.f (K : Nat) (l36 : List Int) : Option (List Int) := confidantref12_quotas.l0 K l36 K ([] : List Int) 0
set_option maxRecDepth 100000 in
theorem confidantref12_quotas.calls {K : Nat} {l36 : List Int} {A37 : Option Addr} {C38 : Nat} {x203 : List Int} {B w : World} {os : List Ass} {rs : List Ro} (H : confidantref12_quotas.f K l36 = some x203) (hS : St B w (os) (Ro.sl (Kd.int .i64) A37 C38 l36 :: rs)) :
    Calls Try.prog 46 [.slice A37 l36.length C38].toArray w (fun en w' => ∃ v, en = .returned v ∧ ∃ A204 : Option Addr, ∃ C205 : Nat, v = .slice A204 x203.length C205 ∧ St B w' (Ass.own 3 (Kd.int .i64) A204 C205 x203 :: os) (Ro.sl (Kd.int .i64) A37 C38 l36 :: rs)) := by
  unfold confidantref12_quotas.f at H
  refine calls_of_EW (args := [.slice A37 l36.length C38]) (c := Cd46) 25 Try.func46 (by kernel_rfl) (by kernel_rfl) (by kernel_rfl) ?_
  refine EW.seq (x := Cd46.l) (y := Cd46.r) (by kernel_rfl) ?_
  refine EW.region (id := 0) (ops := Cd46.l.ops) (by kernel_rfl) ?_
  refine EL.quick 1 [0] [(0, .slice A37 l36.length C38)] (by kernel_rfl) ?_
  refine EL.done (by kernel_rfl) ?_
  refine EQ.code ?_
  refine EW.seq (x := Cd46.r.l) (y := Cd46.r.r) (by kernel_rfl) ?_
  refine EW.region (id := 1) (ops := Cd46.r.l.ops) (by kernel_rfl) ?_
  refine EL.quick 1 [0, 3] [(0, .slice A37 l36.length C38), (3, .slice none ([] : List Int).length 0)] (by kernel_rfl) ?_
  refine EL.done (by kernel_rfl) ?_
  refine EQ.code ?_
  refine EW.seq (x := Cd46.r.r.l) (y := Cd46.r.r.r) (by kernel_rfl) ?_
  refine EW.seq (x := Cd46.r.r.l.l) (y := Cd46.r.r.l.r) (by kernel_rfl) ?_
  refine EW.region (id := 2) (ops := Cd46.r.r.l.l.ops) (by kernel_rfl) ?_
  refine EL.quick 1 [0, 3, 4] [(0, .slice A37 l36.length C38), (3, .slice none ([] : List Int).length 0), (4, .int .i64 0)] (by kernel_rfl) ?_
  refine EL.done (by kernel_rfl) ?_
  refine EQ.code ?_
  refine EW.block (x := Cd46.r.r.l.r.l) (id := 0) (by kernel_rfl) ?_
  have hS := St.nilO hS 3 (Kd.int .i64)
  refine EW.loop (x := Cd46.r.r.l.r.l.l) (fun n a w => ∃ x294 : List Int, ∃ x298 : Int, ∃ A295 : Option Addr, ∃ C296 : Nat, Sat 25 [(0, .slice A37 l36.length C38), (3, .slice A295 x294.length C296), (4, .int .i64 x298)] a ∧ St B w (Ass.own 3 (Kd.int .i64) A295 C296 x294 :: os) (Ro.sl (Kd.int .i64) A37 C38 l36 :: rs) ∧ confidantref12_quotas.l0 K l36 n x294 x298 = some x203) K (by kernel_rfl) ?_ (fun n a w hI => ?_)
  · refine EQ.keep [0, 3, 4] [(0, .slice A37 l36.length C38), (3, .slice none ([] : List Int).length 0), (4, .int .i64 0)] (by kernel_rfl) ?_
    exact fun a ha => ⟨([] : List Int), 0, none, 0, ha, (hS.re [0] [] rfl (sub_cons 0 rfl (sub_tail (sub_self)))), H⟩
  · obtain ⟨x294, x298, A295, C296, ha, hS, H⟩ := hI
    obtain _ | n := n
    · simp [confidantref12_quotas.l0] at H
    rw [confidantref12_quotas.l0.eq_2] at H
    refine EW.at ?_ a ha
    clear ha a
    refine EW.seq (x := Cd46.r.r.l.r.l.l.l) (y := Cd46.r.r.l.r.l.l.r) (by kernel_rfl) ?_
    obtain ⟨j351, hj351, H⟩ := lt_out H
    refine EW.cut (x := Cd46.r.r.l.r.l.l.l.l) (y := Cd46.r.r.l.r.l.l.l.r) (fun a w => ∃ x350 : Bool, Sat 25 [(0, .slice A37 l36.length C38), (3, .slice A295 x294.length C296), (4, .int .i64 x298), (12, .bool (x350))] a ∧ St B w (Ass.own 3 (Kd.int .i64) A295 C296 x294 :: os) (Ro.sl (Kd.int .i64) A37 C38 l36 :: rs) ∧ j351 x350 = some x203) (by kernel_rfl) ?_ (fun a w hI => ?_)
    · refine EW.region (id := 3) (ops := Cd46.r.r.l.r.l.l.l.l.ops) (by kernel_rfl) ?_
      refine EL.quick 5 [0, 3, 4, 9] [(0, .slice A37 l36.length C38), (3, .slice A295 x294.length C296), (4, .int .i64 x298), (9, .bool (decide (x298 < (l36.length : Int))))] (by kernel_rfl) ?_
      by_cases h352 : x298 < (l36.length : Int)
      · rw [if_pos h352] at H
        refine EL.keep [0, 3, 4, 9] [(0, .slice A37 l36.length C38), (3, .slice A295 x294.length C296), (4, .int .i64 x298), (9, .bool (decide (x298 < (l36.length : Int))))] (by kernel_rfl) ?_
        refine EL.as' [(0, .slice A37 l36.length C38), (3, .slice A295 x294.length C296), (4, .int .i64 x298), (9, .bool (true))] (by simp only [dec_t h352, Bool.not_true, Bool.not_false]) ?_
        refine EL.quick 3 [0, 3, 4, 10, 11, 12] [(0, .slice A37 l36.length C38), (3, .slice A295 x294.length C296), (4, .int .i64 x298), (10, .int .i64 x298), (11, .bool (decide (x298 < 16))), (12, .bool (decide (x298 < 16)))] (by kernel_rfl) ?_
        refine EL.done (by kernel_rfl) ?_
        refine EQ.to ?_
        refine EQ.keep [0, 3, 4, 12] [(0, .slice A37 l36.length C38), (3, .slice A295 x294.length C296), (4, .int .i64 x298), (12, .bool (decide (x298 < 16)))] (by kernel_rfl) ?_
        exact fun a ha => ⟨decide (x298 < 16), ha, (hS.re [0] [] rfl (sub_cons 0 rfl (sub_tail (sub_self)))), H⟩
      · rw [if_neg h352] at H
        refine EL.keep [0, 3, 4, 9] [(0, .slice A37 l36.length C38), (3, .slice A295 x294.length C296), (4, .int .i64 x298), (9, .bool (decide (x298 < (l36.length : Int))))] (by kernel_rfl) ?_
        refine EL.as' [(0, .slice A37 l36.length C38), (3, .slice A295 x294.length C296), (4, .int .i64 x298), (9, .bool (false))] (by simp only [dec_f h352, Bool.not_true, Bool.not_false]) ?_
        refine EL.quick 3 [0, 3, 4, 12] [(0, .slice A37 l36.length C38), (3, .slice A295 x294.length C296), (4, .int .i64 x298), (12, .bool (false))] (by kernel_rfl) ?_
        refine EL.done (by kernel_rfl) ?_
        refine EQ.to ?_
        refine EQ.keep [0, 3, 4, 12] [(0, .slice A37 l36.length C38), (3, .slice A295 x294.length C296), (4, .int .i64 x298), (12, .bool (false))] (by kernel_rfl) ?_
        exact fun a ha => ⟨false, ha, (hS.re [0] [] rfl (sub_cons 0 rfl (sub_tail (sub_self)))), H⟩
    · obtain ⟨x350, ha, hS, H⟩ := hI
      rw [hj351] at H
      (try dsimp only at H)
      refine EW.at ?_ a ha
      clear ha a
      refine EW.condP' (o := (.tmp 12)) (x := Cd46.r.r.l.r.l.l.l.r.l) (y := Cd46.r.r.l.r.l.l.l.r.r) (x350) (by kernel_rfl) (by kernel_rfl) (fun h353 => ?_) (fun h353 => ?_)
      · rw [if_pos h353] at H
        refine EW.skip (by kernel_rfl) ?_
        refine EQ.code ?_
        refine EW.seq (x := Cd46.r.r.l.r.l.l.r.l) (y := Cd46.r.r.l.r.l.l.r.r) (by kernel_rfl) ?_
        refine EW.block (x := Cd46.r.r.l.r.l.l.r.l.l) (id := 1) (by kernel_rfl) ?_
        refine EW.region (id := 5) (ops := Cd46.r.r.l.r.l.l.r.l.l.ops) (by kernel_rfl) ?_
        refine EL.quick 3 [0, 4, 15, 16, 17] [(0, .slice A37 l36.length C38), (4, .int .i64 x298), (15, .slice A295 x294.length C296), (16, .slice A37 l36.length C38), (17, .int .i64 x298)] (by kernel_rfl) ?_
        obtain ⟨h363, H⟩ := ite_in H
        obtain ⟨h364, H⟩ := ite_in H
        obtain ⟨ad365, rfl⟩ := St.rd_some hS (Rd.ro 0 rfl) h363 h364
        refine EL.of (EO.Y (YO.idx 66 1 ad365 l36.length C38 .i64 x298 18 (by kernel_rfl) (by kernel_rfl) (by kernel_rfl) (by kernel_rfl) h363 h364) ?_)
        refine EL.of (EO.Y (YO.loadEl hS (Kd.int .i64) ad365 C38 l36 (Rd.ro 0 rfl) 0 (encI .i64) encI_of x298 h363 h364 3 1 0 1 rfl (.int .i64 (l36.getD x298.toNat 0)) 19 (by kernel_rfl) (by kernel_rfl) (by kernel_rfl) (by kernel_rfl)) ?_)
        refine EL.quick 2 [0, 4, 15, 21] [(0, .slice (some ad365) l36.length C38), (4, .int .i64 x298), (15, .slice A295 x294.length C296), (21, .int .i64 (mn (mx (l36.getD x298.toNat 0) 0) 4096))] (by kernel_rfl) ?_
        obtain ⟨l367, hl367, H⟩ := lt_out H
        refine EL.of (EO.lit hS (Kd.int .i64) 3 66 1 #[(0, .int .i64 (mn (mx (l36.getD x298.toNat 0) 0) 4096))] [.int .i64 (mn (mx (l36.getD x298.toNat 0) 0) 4096)] l367 22 (by kernel_rfl) (by kernel_rfl) (by kernel_rfl) (fun _ => (by kernel_rfl)) (by rw [hl367]; rfl) (by kernel_rfl) (fun w G hr => (by rw [hl367]; exact ⟨[.int .i64 (mn (mx (l36.getD x298.toNat 0) 0) 4096)], [], rfl, rfl, rfl⟩)) ?_)
        intro g366 w hS
        obtain ⟨h368, H⟩ := ite_in H
        obtain ⟨l369, hl369, H⟩ := lt_out H
        refine EL.of (EO.append hS 66 66 3 8 1 (Kd.int .i64) A295 C296 x294 rfl (some ⟨g366, 0, none⟩) 1 l367 (Rd.own 0 3 rfl) l369 hl369 (fun A370 C371 => Ass.own 3 (Kd.int .i64) (some ⟨g366, 0, none⟩) 1 l367 :: Ass.own 3 (Kd.int .i64) A370 C371 l369 :: os) 23 (by kernel_rfl) (by kernel_rfl) (by kernel_rfl) (by kernel_rfl) h368 (fun _ _ => rfl) ?_)
        intro A370 C371 w hS
        refine EL.quick 1 [0, 3, 4] [(0, .slice (some ad365) l36.length C38), (3, .slice A370 l369.length C371), (4, .int .i64 x298)] (by kernel_rfl) ?_
        refine EL.done (by kernel_rfl) ?_
        refine EQ.pop ?_
        refine EQ.code ?_
        refine EW.region (id := 4) (ops := Cd46.r.r.l.r.l.l.r.r.ops) (by kernel_rfl) ?_
        refine EL.quick 3 [0, 3, 4] [(0, .slice (some ad365) l36.length C38), (3, .slice A370 l369.length C371), (4, .int .i64 (IntKind.i64.wrap (x298 + 1)))] (by kernel_rfl) ?_
        refine EL.done (by kernel_rfl) ?_
        refine EQ.to ?_
        refine EQ.keep [0, 3, 4] [(0, .slice (some ad365) l36.length C38), (3, .slice A370 l369.length C371), (4, .int .i64 (IntKind.i64.wrap (x298 + 1)))] (by kernel_rfl) ?_
        exact fun a ha => ⟨n, Nat.lt_succ_self n, l369, IntKind.i64.wrap (x298 + 1), A370, C371, ha, (hS.re [1] [1] rfl (sub_cons 0 rfl (sub_tail (sub_self)))), H⟩
      · rw [if_neg h353] at H
        refine EW.exit (id := 0) (by kernel_rfl) ?_
        refine EQ.exitCode ?_
        refine EQ.exitTo ?_
        refine EQ.exitHere ?_
        refine EQ.code ?_
        refine EW.seq (x := Cd46.r.r.r.l) (y := Cd46.r.r.r.r) (by kernel_rfl) ?_
        refine EW.region (id := 6) (ops := Cd46.r.r.r.l.ops) (by kernel_rfl) ?_
        refine EL.quick 2 [2] [(2, .slice A295 x294.length C296)] (by kernel_rfl) ?_
        refine EL.done (by kernel_rfl) ?_
        refine EQ.code ?_
        refine EW.ret (by kernel_rfl) ?_
        obtain rfl := Option.some.inj H
        exact EQ.leave (.slice A295 x294.length C296) (by kernel_rfl) ⟨_, rfl, A295, C296, rfl, (hS.re [0] [] rfl (sub_self))⟩

/-! ### confidant/confidantref12.NewFutures: function 18 -/
def confidantref12_NewFutures.f (K : Nat) (l33 : List Int) : Option (List Int × List (List S96)) := b1 (confidantref12_quotas.f K l33) fun (t396 : List Int) => (if 0 ≤ (t396.length : Int) then (if (24 : Int) * (t396.length : Int) ≤ 140737488355328 then (lt (List.replicate (t396.length : Int).toNat [] : List (List S96)) fun l403 => (some (t396, l403))) else none) else none)
set_option maxRecDepth 100000 in
theorem confidantref12_NewFutures.calls {K : Nat} {l33 : List Int} {A34 : Option Addr} {C35 : Nat} {x386 : List Int} {x389 : List (List S96)} {B w : World} {os : List Ass} {rs : List Ro} (H : confidantref12_NewFutures.f K l33 = some (x386, x389)) (hS : St B w (os) (Ro.sl (Kd.int .i64) A34 C35 l33 :: rs)) :
    Calls Try.prog 18 [.slice A34 l33.length C35].toArray w (fun en w' => ∃ v, en = .returned v ∧ ∃ g385 : Nat, ∃ A387 : Option Addr, ∃ C388 : Nat, ∃ A390 : Option Addr, ∃ C391 : Nat, v = .pointer (some ⟨g385, 0, none⟩) ∧ St B w' (Ass.box 105 g385 [.slice A387 x386.length C388, .slice A390 x389.length C391] :: Ass.own 3 (Kd.int .i64) A387 C388 x386 :: Ass.deep 94 96 kS96 A390 C391 x389 :: os) (Ro.sl (Kd.int .i64) A34 C35 l33 :: rs)) := by
  unfold confidantref12_NewFutures.f at H
  refine calls_of_EW (args := [.slice A34 l33.length C35]) (c := Cd18) 12 Try.func18 (by kernel_rfl) (by kernel_rfl) (by kernel_rfl) ?_
  refine EW.seq (x := Cd18.l) (y := Cd18.r) (by kernel_rfl) ?_
  refine EW.region (id := 0) (ops := Cd18.l.ops) (by kernel_rfl) ?_
  refine EL.quick 1 [0] [(0, .slice A34 l33.length C35)] (by kernel_rfl) ?_
  refine EL.done (by kernel_rfl) ?_
  refine EQ.code ?_
  refine EW.seq (x := Cd18.r.l) (y := Cd18.r.r) (by kernel_rfl) ?_
  refine EW.region (id := 1) (ops := Cd18.r.l.ops) (by kernel_rfl) ?_
  refine EL.quick 1 [4] [(4, .slice A34 l33.length C35)] (by kernel_rfl) ?_
  have hS : St B _ (os) (Ro.sl (Kd.int .i64) A34 C35 l33 :: Ro.sl (Kd.int .i64) A34 C35 l33 :: rs) := hS.re [] [] rfl (sub_cons 0 rfl sub_self)
  obtain ⟨t396, hc399, H⟩ := b1_out H
  refine EL.of (EO.callD 46 [.slice A34 l33.length C35] _ 5 (by kernel_rfl) (by kernel_rfl) (by kernel_rfl) (confidantref12_quotas.calls hc399 hS) ?_)
  rintro v w ⟨A397, C398, rfl, hS⟩
  refine EL.quick 1 [3] [(3, .slice A397 t396.length C398)] (by kernel_rfl) ?_
  refine EL.done (by kernel_rfl) ?_
  refine EQ.code ?_
  refine EW.seq (x := Cd18.r.r.l) (y := Cd18.r.r.r) (by kernel_rfl) ?_
  refine EW.region (id := 2) (ops := Cd18.r.r.l.ops) (by kernel_rfl) ?_
  refine EL.quick 3 [6, 8] [(6, .slice A397 t396.length C398), (8, .int .i64 (t396.length : Int))] (by kernel_rfl) ?_
  obtain ⟨h401, H⟩ := ite_in H
  obtain ⟨h402, H⟩ := ite_in H
  obtain ⟨l403, hl403, H⟩ := lt_out H
  refine EL.of (EO.make (xs := List.replicate (t396.length : Int).toNat ((none, 0, 0) : Hdr)) hS Kd.hdr 94 89 24 .i64 .i64 (t396.length : Int) (none, 0, 0) [.slice none ([] : List S96).length 0] rfl 9 (by kernel_rfl) (by kernel_rfl) (by kernel_rfl) (by kernel_rfl) (by kernel_rfl) h401 h402 (fun w G => rfl) ?_)
  intro g400 w hS
  have hS : St B w (Ass.deep 94 96 kS96 (some ⟨g400, 0, none⟩) ((t396.length : Int).toNat) l403 :: Ass.own 3 (Kd.int .i64) A397 C398 t396 :: os) (Ro.sl (Kd.int .i64) A34 C35 l33 :: Ro.sl (Kd.int .i64) A34 C35 l33 :: rs) := by rw [hl403]; exact St.madeDeep (et := 94) (et' := 96) (K := kS96) hS
  refine EL.as' ((9, .slice (some ⟨g400, 0, none⟩) l403.length ((t396.length : Int).toNat)) :: _) (by rw [hl403, List.length_replicate, List.length_replicate]) ?_
  refine EL.quick 1 [10] [(10, .agg #[.slice A397 t396.length C398, .slice (some ⟨g400, 0, none⟩) l403.length ((t396.length : Int).toNat)])] (by kernel_rfl) ?_
  refine EL.of (EO.box hS 105 (.agg #[.slice A397 t396.length C398, .slice (some ⟨g400, 0, none⟩) l403.length ((t396.length : Int).toNat)]) [.slice A397 t396.length C398, .slice (some ⟨g400, 0, none⟩) l403.length ((t396.length : Int).toNat)] 11 (by kernel_rfl) (by kernel_rfl) (by kernel_rfl) (by first | rfl | kernel_rfl) ?_)
  intro g404 w hS
  refine EL.quick 1 [2] [(2, .pointer (some ⟨g404, 0, none⟩))] (by kernel_rfl) ?_
  refine EL.done (by kernel_rfl) ?_
  refine EQ.code ?_
  refine EW.ret (by kernel_rfl) ?_
  simp only [Option.some.injEq, Prod.mk.injEq] at H
  obtain ⟨rfl, rfl⟩ := H
  exact EQ.leave (.pointer (some ⟨g404, 0, none⟩)) (by kernel_rfl) ⟨_, rfl, g404, A397, C398, (some ⟨g400, 0, none⟩), (t396.length : Int).toNat, rfl, (hS.re [1, 2, 2] [] rfl (sub_tail (sub_self)))⟩

/-! ### confidant/confidantref9.Of: function 47 -/
def confidantref9_Of.f (K : Nat) (a526 : Int) (a527 : Int) : Option (Int × Bool) := lt (fun (x577 : Bool) => (if x577 = true then (some (0, false)) else (lt (IntKind.i32.wrap (IntKind.i64.wrap ((IntKind.i64.wrap (a526 * 65536)) + a527))) fun y583 => (some (y583, true))))) fun j578 => (if a526 < 0 then (j578 true) else (if a526 ≥ 16 then (j578 true) else (if a527 < 0 then (j578 true) else (j578 (decide (a527 ≥ 65536))))))
set_option maxRecDepth 100000 in
theorem confidantref9_Of.calls {K : Nat} {a526 : Int} {a527 : Int} {x555 : Int} {x556 : Bool} {B w : World} {os : List Ass} {rs : List Ro} (H : confidantref9_Of.f K a526 a527 = some (x555, x556)) (hS : St B w (os) (rs)) :
    Calls Try.prog 47 [.int .i64 a526, .int .i64 a527].toArray w (fun en w' => ∃ v, en = .returned v ∧ v = .tuple #[.int .i32 x555, .bool (x556)] ∧ St B w' (os) (rs)) := by
  unfold confidantref9_Of.f at H
  refine calls_of_EW (args := [.int .i64 a526, .int .i64 a527]) (c := Cd47) 25 Try.func47 (by kernel_rfl) (by kernel_rfl) (by kernel_rfl) ?_
  refine EW.seq (x := Cd47.l) (y := Cd47.r) (by kernel_rfl) ?_
  refine EW.region (id := 0) (ops := Cd47.l.ops) (by kernel_rfl) ?_
  refine EL.quick 2 [0, 1] [(0, .int .i64 a526), (1, .int .i64 a527)] (by kernel_rfl) ?_
  refine EL.done (by kernel_rfl) ?_
  refine EQ.code ?_
  refine EW.seq (x := Cd47.r.l) (y := Cd47.r.r) (by kernel_rfl) ?_
  obtain ⟨j578, hj578, H⟩ := lt_out H
  refine EW.cut (x := Cd47.r.l.l) (y := Cd47.r.l.r) (fun a w => ∃ x577 : Bool, Sat 25 [(0, .int .i64 a526), (1, .int .i64 a527), (19, .bool (x577))] a ∧ St B w (os) (rs) ∧ j578 x577 = some (x555, x556)) (by kernel_rfl) ?_ (fun a w hI => ?_)
  · refine EW.region (id := 1) (ops := Cd47.r.l.l.ops) (by kernel_rfl) ?_
    refine EL.quick 3 [0, 1, 8] [(0, .int .i64 a526), (1, .int .i64 a527), (8, .bool (decide (a526 < 0)))] (by kernel_rfl) ?_
    by_cases h579 : a526 < 0
    · rw [if_pos h579] at H
      refine EL.keep [0, 1, 8] [(0, .int .i64 a526), (1, .int .i64 a527), (8, .bool (decide (a526 < 0)))] (by kernel_rfl) ?_
      refine EL.as' [(0, .int .i64 a526), (1, .int .i64 a527), (8, .bool (true))] (by simp only [dec_t h579, Bool.not_true, Bool.not_false]) ?_
      refine EL.quick 11 [0, 1, 19] [(0, .int .i64 a526), (1, .int .i64 a527), (19, .bool (true))] (by kernel_rfl) ?_
      refine EL.done (by kernel_rfl) ?_
      refine EQ.to ?_
      refine EQ.keep [0, 1, 19] [(0, .int .i64 a526), (1, .int .i64 a527), (19, .bool (true))] (by kernel_rfl) ?_
      exact fun a ha => ⟨true, ha, (hS.re [] [] rfl (sub_self)), H⟩
    · rw [if_neg h579] at H
      refine EL.keep [0, 1, 8] [(0, .int .i64 a526), (1, .int .i64 a527), (8, .bool (decide (a526 < 0)))] (by kernel_rfl) ?_
      refine EL.as' [(0, .int .i64 a526), (1, .int .i64 a527), (8, .bool (false))] (by simp only [dec_f h579, Bool.not_true, Bool.not_false]) ?_
      refine EL.quick 4 [0, 1, 12] [(0, .int .i64 a526), (1, .int .i64 a527), (12, .bool (decide (a526 ≥ 16)))] (by kernel_rfl) ?_
      by_cases h580 : a526 ≥ 16
      · rw [if_pos h580] at H
        refine EL.keep [0, 1, 12] [(0, .int .i64 a526), (1, .int .i64 a527), (12, .bool (decide (a526 ≥ 16)))] (by kernel_rfl) ?_
        refine EL.as' [(0, .int .i64 a526), (1, .int .i64 a527), (12, .bool (true))] (by simp only [dec_t h580, Bool.not_true, Bool.not_false]) ?_
        refine EL.quick 7 [0, 1, 19] [(0, .int .i64 a526), (1, .int .i64 a527), (19, .bool (true))] (by kernel_rfl) ?_
        refine EL.done (by kernel_rfl) ?_
        refine EQ.to ?_
        refine EQ.keep [0, 1, 19] [(0, .int .i64 a526), (1, .int .i64 a527), (19, .bool (true))] (by kernel_rfl) ?_
        exact fun a ha => ⟨true, ha, (hS.re [] [] rfl (sub_self)), H⟩
      · rw [if_neg h580] at H
        refine EL.keep [0, 1, 12] [(0, .int .i64 a526), (1, .int .i64 a527), (12, .bool (decide (a526 ≥ 16)))] (by kernel_rfl) ?_
        refine EL.as' [(0, .int .i64 a526), (1, .int .i64 a527), (12, .bool (false))] (by simp only [dec_f h580, Bool.not_true, Bool.not_false]) ?_
        refine EL.quick 4 [0, 1, 16] [(0, .int .i64 a526), (1, .int .i64 a527), (16, .bool (decide (a527 < 0)))] (by kernel_rfl) ?_
        by_cases h581 : a527 < 0
        · rw [if_pos h581] at H
          refine EL.keep [0, 1, 16] [(0, .int .i64 a526), (1, .int .i64 a527), (16, .bool (decide (a527 < 0)))] (by kernel_rfl) ?_
          refine EL.as' [(0, .int .i64 a526), (1, .int .i64 a527), (16, .bool (true))] (by simp only [dec_t h581, Bool.not_true, Bool.not_false]) ?_
          refine EL.quick 3 [0, 1, 19] [(0, .int .i64 a526), (1, .int .i64 a527), (19, .bool (true))] (by kernel_rfl) ?_
          refine EL.done (by kernel_rfl) ?_
          refine EQ.to ?_
          refine EQ.keep [0, 1, 19] [(0, .int .i64 a526), (1, .int .i64 a527), (19, .bool (true))] (by kernel_rfl) ?_
          exact fun a ha => ⟨true, ha, (hS.re [] [] rfl (sub_self)), H⟩
        · rw [if_neg h581] at H
          refine EL.keep [0, 1, 16] [(0, .int .i64 a526), (1, .int .i64 a527), (16, .bool (decide (a527 < 0)))] (by kernel_rfl) ?_
          refine EL.as' [(0, .int .i64 a526), (1, .int .i64 a527), (16, .bool (false))] (by simp only [dec_f h581, Bool.not_true, Bool.not_false]) ?_
          refine EL.quick 3 [0, 1, 19] [(0, .int .i64 a526), (1, .int .i64 a527), (19, .bool (decide (a527 ≥ 65536)))] (by kernel_rfl) ?_
          refine EL.done (by kernel_rfl) ?_
          refine EQ.to ?_
          refine EQ.keep [0, 1, 19] [(0, .int .i64 a526), (1, .int .i64 a527), (19, .bool (decide (a527 ≥ 65536)))] (by kernel_rfl) ?_
          exact fun a ha => ⟨decide (a527 ≥ 65536), ha, (hS.re [] [] rfl (sub_self)), H⟩
  · obtain ⟨x577, ha, hS, H⟩ := hI
    rw [hj578] at H
    (try dsimp only at H)
    refine EW.at ?_ a ha
    clear ha a
    refine EW.condP' (o := (.tmp 19)) (x := Cd47.r.l.r.l) (y := Cd47.r.l.r.r) (x577) (by kernel_rfl) (by kernel_rfl) (fun h582 => ?_) (fun h582 => ?_)
    · rw [if_pos h582] at H
      refine EW.seq (x := Cd47.r.l.r.l.l) (y := Cd47.r.l.r.l.r) (by kernel_rfl) ?_
      refine EW.region (id := 2) (ops := Cd47.r.l.r.l.l.ops) (by kernel_rfl) ?_
      refine EL.quick 2 [4, 5] [(4, .int .i32 0), (5, .bool (false))] (by kernel_rfl) ?_
      refine EL.done (by kernel_rfl) ?_
      refine EQ.code ?_
      refine EW.ret (by kernel_rfl) ?_
      refine EQ.ret ?_
      simp only [Option.some.injEq, Prod.mk.injEq] at H
      obtain ⟨rfl, rfl⟩ := H
      exact EQ.leave (.tuple #[.int .i32 0, .bool (false)]) (by kernel_rfl) ⟨_, rfl, rfl, (hS.re [] [] rfl (sub_self))⟩
    · rw [if_neg h582] at H
      refine EW.skip (by kernel_rfl) ?_
      refine EQ.code ?_
      refine EW.seq (x := Cd47.r.r.l) (y := Cd47.r.r.r) (by kernel_rfl) ?_
      refine EW.region (id := 3) (ops := Cd47.r.r.l.ops) (by kernel_rfl) ?_
      refine EL.quick 7 [4, 5] [(4, .int .i32 (IntKind.i32.wrap (IntKind.i64.wrap ((IntKind.i64.wrap (a526 * 65536)) + a527)))), (5, .bool (true))] (by kernel_rfl) ?_
      obtain ⟨y583, hy583, H⟩ := lt_out H
      refine EL.keep [4, 5] [(4, .int .i32 (IntKind.i32.wrap (IntKind.i64.wrap ((IntKind.i64.wrap (a526 * 65536)) + a527)))), (5, .bool (true))] (by kernel_rfl) ?_
      refine EL.as' [(4, .int .i32 y583), (5, .bool (true))] (by subst hy583; rfl) ?_
      refine EL.done (by kernel_rfl) ?_
      refine EQ.code ?_
      refine EW.ret (by kernel_rfl) ?_
      simp only [Option.some.injEq, Prod.mk.injEq] at H
      obtain ⟨rfl, rfl⟩ := H
      exact EQ.leave (.tuple #[.int .i32 y583, .bool (true)]) (by kernel_rfl) ⟨_, rfl, rfl, (hS.re [] [] rfl (sub_self))⟩

/-! ### (*confidant/confidantref12.Futures).Make: function 19 -/
def confidantref12_Futures_Make.f (K : Nat) (l449 : List Int) (l453 : List (List S96)) (a457 : Int) (a458 : Int) : Option (List (List S96) × Int × Bool) := lt (fun (x657 : Bool) => (if x657 = true then (some (l453, 0, false)) else (if 0 ≤ a457 then (if a457 < (l453.length : Int) then (b2 (confidantref9_Of.f K a457 ((l453.getD a457.toNat []).length : Int)) fun (t686 : Int) (t687 : Bool) => (lt ([(⟨a458, 0, 0, 0⟩ : S96)] : List S96) fun l690 => (if ((l453.getD a457.toNat []).length + l690.length) * 32 ≤ 140737488355328 then (lt ((l453.getD a457.toNat []) ++ l690) fun l692 => (lt (l453.set a457.toNat l692) fun l695 => (some (l695, t686, true)))) else none))) else none) else none))) fun j658 => (if a457 < 0 then (j658 true) else (if a457 ≥ (l453.length : Int) then (j658 true) else (if 0 ≤ a457 then (if a457 < (l453.length : Int) then (if a457 < (l449.length : Int) then (j658 (decide (((l453.getD a457.toNat []).length : Int) ≥ (l449.getD a457.toNat 0)))) else none) else none) else none)))
set_option maxRecDepth 100000 in
theorem confidantref12_Futures_Make.calls {K : Nat} {l449 : List Int} {l453 : List (List S96)} {a457 : Int} {a458 : Int} {g448 : Nat} {A450 : Option Addr} {C451 : Nat} {A454 : Option Addr} {C455 : Nat} {x602 : List (List S96)} {x605 : Int} {x606 : Bool} {B w : World} {os : List Ass} {rs : List Ro} (H : confidantref12_Futures_Make.f K l449 l453 a457 a458 = some (x602, x605, x606)) (hS : St B w (Ass.box 105 g448 [.slice A450 l449.length C451, .slice A454 l453.length C455] :: Ass.own 3 (Kd.int .i64) A450 C451 l449 :: Ass.deep 94 96 kS96 A454 C455 l453 :: os) (rs)) :
    Calls Try.prog 19 [.pointer (some ⟨g448, 0, none⟩), .int .i64 a457, .int .i64 a458].toArray w (fun en w' => ∃ v, en = .returned v ∧ ∃ A603 : Option Addr, ∃ C604 : Nat, v = .tuple #[.int .i32 x605, .bool (x606)] ∧ St B w' (Ass.box 105 g448 [.slice A450 l449.length C451, .slice A603 x602.length C604] :: Ass.own 3 (Kd.int .i64) A450 C451 l449 :: Ass.deep 94 96 kS96 A603 C604 x602 :: os) (rs)) := by
  unfold confidantref12_Futures_Make.f at H
  refine calls_of_EW (args := [.pointer (some ⟨g448, 0, none⟩), .int .i64 a457, .int .i64 a458]) (c := Cd19) 70 Try.func19 (by kernel_rfl) (by kernel_rfl) (by kernel_rfl) ?_
  refine EW.seq (x := Cd19.l) (y := Cd19.r) (by kernel_rfl) ?_
  refine EW.region (id := 0) (ops := Cd19.l.ops) (by kernel_rfl) ?_
  refine EL.quick 2 [0, 1, 2] [(0, .pointer (some ⟨g448, 0, none⟩)), (1, .int .i64 a457), (2, .int .i64 a458)] (by kernel_rfl) ?_
  refine EL.done (by kernel_rfl) ?_
  refine EQ.code ?_
  refine EW.seq (x := Cd19.r.l) (y := Cd19.r.r) (by kernel_rfl) ?_
  obtain ⟨j658, hj658, H⟩ := lt_out H
  refine EW.cut (x := Cd19.r.l.l) (y := Cd19.r.l.r) (fun a w => ∃ x657 : Bool, Sat 70 [(0, .pointer (some ⟨g448, 0, none⟩)), (1, .int .i64 a457), (2, .int .i64 a458), (38, .bool (x657))] a ∧ St B w (Ass.box 105 g448 [.slice A450 l449.length C451, .slice A454 l453.length C455] :: Ass.own 3 (Kd.int .i64) A450 C451 l449 :: Ass.deep 94 96 kS96 A454 C455 l453 :: os) (rs) ∧ j658 x657 = some (x602, x605, x606)) (by kernel_rfl) ?_ (fun a w hI => ?_)
  · by_cases h659 : a457 < 0
    · rw [if_pos h659] at H
      have hS := hS.drew
      refine EW.draw (B := B) (id := 1) (ops := Cd19.r.l.l.ops) [Ass.box 105 g448 [.slice A450 l449.length C451, .slice A454 l453.length C455], Ass.own 3 (Kd.int .i64) A450 C451 l449, Ass.deep 94 96 kS96 A454 C455 l453] [] (by kernel_rfl) (by kernel_rfl) ?_
      have hN : Region.noSelect Cd19.r.l.l.ops = true := (by kernel_rfl)
      have hF : freeAll Cd19.r.l.l.ops = true := (by kernel_rfl)
      have hC : Core B [Ass.box 105 g448 [.slice A450 l449.length C451, .slice A454 l453.length C455], Ass.own 3 (Kd.int .i64) A450 C451 l449, Ass.deep 94 96 kS96 A454 C455 l453] [] _ := ⟨_, _, hS⟩
      refine ED.quick hN hF hC [0, 1, 2] [0, 1, 2, 12] 26 [(0, .pointer (some ⟨g448, 0, none⟩)), (1, .int .i64 a457), (2, .int .i64 a458), (12, .bool (decide (a457 < 0)))] #[true, true, true, false, false, false, false, false, false, false, false, false, false, false, false, false, false, false, false, false, false, false, false, false, false, false, false, false, false] (by kernel_rfl) (by kernel_rfl) ?_
      refine ED.keep [0, 1, 2, 12] [(0, .pointer (some ⟨g448, 0, none⟩)), (1, .int .i64 a457), (2, .int .i64 a458), (12, .bool (decide (a457 < 0)))] (by kernel_rfl) ?_
      refine ED.as' [(0, .pointer (some ⟨g448, 0, none⟩)), (1, .int .i64 a457), (2, .int .i64 a458), (12, .bool (true))] (by simp only [dec_t h659, Bool.not_true, Bool.not_false]) ?_
      refine ED.quick hN hF hC [3, 4, 5, 6, 7, 8, 9, 10, 11, 12, 13, 14, 15, 16, 17, 18, 19, 20, 21, 22, 23, 24, 25, 26, 27, 28] [0, 1, 2, 38] 0 [(0, .pointer (some ⟨g448, 0, none⟩)), (1, .int .i64 a457), (2, .int .i64 a458), (38, .bool (true))] #[true, true, true, true, true, true, true, true, true, true, true, true, true, true, true, true, true, true, true, true, true, true, true, true, true, true, true, true, true] (by kernel_rfl) (by kernel_rfl) ?_
      refine ED.done (by kernel_rfl) ?_
      refine EQ.to ?_
      refine EQ.keep [0, 1, 2, 38] [(0, .pointer (some ⟨g448, 0, none⟩)), (1, .int .i64 a457), (2, .int .i64 a458), (38, .bool (true))] (by kernel_rfl) ?_
      exact fun a ha => ⟨true, ha, (hS.re [2, 2, 2] [] rfl (sub_self)), H⟩
    · rw [if_neg h659] at H
      by_cases h660 : a457 ≥ (l453.length : Int)
      · rw [if_pos h660] at H
        have hS := hS.drew
        refine EW.draw (B := B) (id := 1) (ops := Cd19.r.l.l.ops) [Ass.box 105 g448 [.slice A450 l449.length C451, .slice A454 l453.length C455], Ass.own 3 (Kd.int .i64) A450 C451 l449, Ass.deep 94 96 kS96 A454 C455 l453] [] (by kernel_rfl) (by kernel_rfl) ?_
        have hN : Region.noSelect Cd19.r.l.l.ops = true := (by kernel_rfl)
        have hF : freeAll Cd19.r.l.l.ops = true := (by kernel_rfl)
        have hC : Core B [Ass.box 105 g448 [.slice A450 l449.length C451, .slice A454 l453.length C455], Ass.own 3 (Kd.int .i64) A450 C451 l449, Ass.deep 94 96 kS96 A454 C455 l453] [] _ := ⟨_, _, hS⟩
        refine ED.quick hN hF hC [0, 1, 2] [0, 1, 2, 12] 26 [(0, .pointer (some ⟨g448, 0, none⟩)), (1, .int .i64 a457), (2, .int .i64 a458), (12, .bool (decide (a457 < 0)))] #[true, true, true, false, false, false, false, false, false, false, false, false, false, false, false, false, false, false, false, false, false, false, false, false, false, false, false, false, false] (by kernel_rfl) (by kernel_rfl) ?_
        refine ED.keep [0, 1, 2, 12] [(0, .pointer (some ⟨g448, 0, none⟩)), (1, .int .i64 a457), (2, .int .i64 a458), (12, .bool (decide (a457 < 0)))] (by kernel_rfl) ?_
        refine ED.as' [(0, .pointer (some ⟨g448, 0, none⟩)), (1, .int .i64 a457), (2, .int .i64 a458), (12, .bool (false))] (by simp only [dec_f h659, Bool.not_true, Bool.not_false]) ?_
        refine ED.quick hN hF hC [3, 4, 5, 6] [0, 1, 2, 12, 13, 16] 22 [(0, .pointer (some ⟨g448, 0, none⟩)), (1, .int .i64 a457), (2, .int .i64 a458), (12, .bool (false)), (13, .int .i64 a457), (16, .pointer (some ⟨g448, 1, none⟩))] #[true, true, true, true, true, true, true, false, false, false, false, false, false, false, false, false, false, false, false, false, false, false, false, false, false, false, false, false, false] (by kernel_rfl) (by kernel_rfl) ?_
        refine ED.Y hN hF hC 7 21 #[true, true, true, true, true, true, true, true, false, false, false, false, false, false, false, false, false, false, false, false, false, false, false, false, false, false, false, false, false] (by kernel_rfl) (by kernel_rfl) rfl (fun _ _ _ hS => YO.loadBox hS 0 rfl 89 1 1 (.slice A454 l453.length C455) 17 (by kernel_rfl) (by kernel_rfl) (by kernel_rfl) (by kernel_rfl)) ?_
        refine ED.quick hN hF hC [8, 9, 10, 11] [0, 1, 2, 21] 17 [(0, .pointer (some ⟨g448, 0, none⟩)), (1, .int .i64 a457), (2, .int .i64 a458), (21, .bool (decide (a457 ≥ (l453.length : Int))))] #[true, true, true, true, true, true, true, true, true, true, true, true, false, false, false, false, false, false, false, false, false, false, false, false, false, false, false, false, false] (by kernel_rfl) (by kernel_rfl) ?_
        refine ED.keep [0, 1, 2, 21] [(0, .pointer (some ⟨g448, 0, none⟩)), (1, .int .i64 a457), (2, .int .i64 a458), (21, .bool (decide (a457 ≥ (l453.length : Int))))] (by kernel_rfl) ?_
        refine ED.as' [(0, .pointer (some ⟨g448, 0, none⟩)), (1, .int .i64 a457), (2, .int .i64 a458), (21, .bool (true))] (by simp only [dec_t h660, Bool.not_true, Bool.not_false]) ?_
        refine ED.quick hN hF hC [12, 13, 14, 15, 16, 17, 18, 19, 20, 21, 22, 23, 24, 25, 26, 27, 28] [0, 1, 2, 38] 0 [(0, .pointer (some ⟨g448, 0, none⟩)), (1, .int .i64 a457), (2, .int .i64 a458), (38, .bool (true))] #[true, true, true, true, true, true, true, true, true, true, true, true, true, true, true, true, true, true, true, true, true, true, true, true, true, true, true, true, true] (by kernel_rfl) (by kernel_rfl) ?_
        refine ED.done (by kernel_rfl) ?_
        refine EQ.to ?_
        refine EQ.keep [0, 1, 2, 38] [(0, .pointer (some ⟨g448, 0, none⟩)), (1, .int .i64 a457), (2, .int .i64 a458), (38, .bool (true))] (by kernel_rfl) ?_
        exact fun a ha => ⟨true, ha, (hS.re [2, 2, 2] [] rfl (sub_self)), H⟩
      · rw [if_neg h660] at H
        obtain ⟨h661, H⟩ := ite_in H
        obtain ⟨h662, H⟩ := ite_in H
        obtain ⟨ad663, rfl⟩ := St.deep_some hS 2 rfl h661 h662
        obtain ⟨h666, H⟩ := ite_in H
        obtain ⟨ad667, rfl⟩ := St.rd_some hS (Rd.own 1 3 rfl) h661 h666
        have hS := hS.drew
        refine EW.draw (B := B) (id := 1) (ops := Cd19.r.l.l.ops) [Ass.box 105 g448 [.slice (some ad667) l449.length C451, .slice (some ad663) l453.length C455], Ass.own 3 (Kd.int .i64) (some ad667) C451 l449] [] (by kernel_rfl) (by kernel_rfl) ?_
        have hN : Region.noSelect Cd19.r.l.l.ops = true := (by kernel_rfl)
        have hF : freeAll Cd19.r.l.l.ops = true := (by kernel_rfl)
        have hC : Core B [Ass.box 105 g448 [.slice (some ad667) l449.length C451, .slice (some ad663) l453.length C455], Ass.own 3 (Kd.int .i64) (some ad667) C451 l449] [] _ := ⟨_, _, hS⟩
        refine ED.quick hN hF hC [0, 1, 2] [0, 1, 2, 12] 26 [(0, .pointer (some ⟨g448, 0, none⟩)), (1, .int .i64 a457), (2, .int .i64 a458), (12, .bool (decide (a457 < 0)))] #[true, true, true, false, false, false, false, false, false, false, false, false, false, false, false, false, false, false, false, false, false, false, false, false, false, false, false, false, false] (by kernel_rfl) (by kernel_rfl) ?_
        refine ED.keep [0, 1, 2, 12] [(0, .pointer (some ⟨g448, 0, none⟩)), (1, .int .i64 a457), (2, .int .i64 a458), (12, .bool (decide (a457 < 0)))] (by kernel_rfl) ?_
        refine ED.as' [(0, .pointer (some ⟨g448, 0, none⟩)), (1, .int .i64 a457), (2, .int .i64 a458), (12, .bool (false))] (by simp only [dec_f h659, Bool.not_true, Bool.not_false]) ?_
        refine ED.quick hN hF hC [3, 4, 5, 6] [0, 1, 2, 12, 13, 16] 22 [(0, .pointer (some ⟨g448, 0, none⟩)), (1, .int .i64 a457), (2, .int .i64 a458), (12, .bool (false)), (13, .int .i64 a457), (16, .pointer (some ⟨g448, 1, none⟩))] #[true, true, true, true, true, true, true, false, false, false, false, false, false, false, false, false, false, false, false, false, false, false, false, false, false, false, false, false, false] (by kernel_rfl) (by kernel_rfl) ?_
        refine ED.Y hN hF hC 7 21 #[true, true, true, true, true, true, true, true, false, false, false, false, false, false, false, false, false, false, false, false, false, false, false, false, false, false, false, false, false] (by kernel_rfl) (by kernel_rfl) rfl (fun _ _ _ hS => YO.loadBox hS 0 rfl 89 1 1 (.slice (some ad663) l453.length C455) 17 (by kernel_rfl) (by kernel_rfl) (by kernel_rfl) (by kernel_rfl)) ?_
        refine ED.quick hN hF hC [8, 9, 10, 11] [0, 1, 2, 21] 17 [(0, .pointer (some ⟨g448, 0, none⟩)), (1, .int .i64 a457), (2, .int .i64 a458), (21, .bool (decide (a457 ≥ (l453.length : Int))))] #[true, true, true, true, true, true, true, true, true, true, true, true, false, false, false, false, false, false, false, false, false, false, false, false, false, false, false, false, false] (by kernel_rfl) (by kernel_rfl) ?_
        refine ED.keep [0, 1, 2, 21] [(0, .pointer (some ⟨g448, 0, none⟩)), (1, .int .i64 a457), (2, .int .i64 a458), (21, .bool (decide (a457 ≥ (l453.length : Int))))] (by kernel_rfl) ?_
        refine ED.as' [(0, .pointer (some ⟨g448, 0, none⟩)), (1, .int .i64 a457), (2, .int .i64 a458), (21, .bool (false))] (by simp only [dec_f h660, Bool.not_true, Bool.not_false]) ?_
        refine ED.quick hN hF hC [12, 13, 14, 16, 20, 21, 22, 24] [0, 1, 2, 21, 24, 26, 32, 34] 9 [(0, .pointer (some ⟨g448, 0, none⟩)), (1, .int .i64 a457), (2, .int .i64 a458), (21, .bool (false)), (24, .pointer (some ⟨g448, 1, none⟩)), (26, .int .i64 a457), (32, .pointer (some ⟨g448, 0, none⟩)), (34, .int .i64 a457)] #[true, true, true, true, true, true, true, true, true, true, true, true, true, true, true, false, true, false, false, false, true, true, true, false, true, false, false, false, false] (by kernel_rfl) (by kernel_rfl) ?_
        refine ED.Y hN hF hC 15 8 #[true, true, true, true, true, true, true, true, true, true, true, true, true, true, true, true, true, false, false, false, true, true, true, false, true, false, false, false, false] (by kernel_rfl) (by kernel_rfl) rfl (fun _ _ _ hS => YO.loadBox hS 0 rfl 89 1 1 (.slice (some ad663) l453.length C455) 25 (by kernel_rfl) (by kernel_rfl) (by kernel_rfl) (by kernel_rfl)) ?_
        refine ED.Y hN hF hC 17 7 #[true, true, true, true, true, true, true, true, true, true, true, true, true, true, true, true, true, true, false, false, true, true, true, false, true, false, false, false, false] (by kernel_rfl) (by kernel_rfl) rfl (fun _ _ _ hS => YO.idx 89 1 ad663 l453.length C455 .i64 a457 27 (by kernel_rfl) (by kernel_rfl) (by kernel_rfl) (by kernel_rfl) h661 h662) ?_
        refine ED.Y hN hF hC 23 6 #[true, true, true, true, true, true, true, true, true, true, true, true, true, true, true, true, true, true, false, false, true, true, true, true, true, false, false, false, false] (by kernel_rfl) (by kernel_rfl) rfl (fun _ _ _ hS => YO.loadBox hS 0 rfl 66 0 1 (.slice (some ad667) l449.length C451) 33 (by kernel_rfl) (by kernel_rfl) (by kernel_rfl) (by kernel_rfl)) ?_
        refine ED.Y hN hF hC 25 5 #[true, true, true, true, true, true, true, true, true, true, true, true, true, true, true, true, true, true, false, false, true, true, true, true, true, true, false, false, false] (by kernel_rfl) (by kernel_rfl) rfl (fun _ _ _ hS => YO.idx 66 1 ad667 l449.length C451 .i64 a457 35 (by kernel_rfl) (by kernel_rfl) (by kernel_rfl) (by kernel_rfl) h661 h666) ?_
        refine ED.Y hN hF hC 26 4 #[true, true, true, true, true, true, true, true, true, true, true, true, true, true, true, true, true, true, false, false, true, true, true, true, true, true, true, false, false] (by kernel_rfl) (by kernel_rfl) rfl (fun _ _ _ hS => YO.loadEl hS (Kd.int .i64) ad667 C451 l449 (Rd.own 1 3 rfl) 0 (encI .i64) encI_of a457 h661 h666 3 1 0 1 rfl (.int .i64 (l449.getD a457.toNat 0)) 36 (by kernel_rfl) (by kernel_rfl) (by kernel_rfl) (by kernel_rfl)) ?_
        refine ED.one 18 3 #[true, true, true, true, true, true, true, true, true, true, true, true, true, true, true, true, true, true, true, false, true, true, true, true, true, true, true, false, false] (by kernel_rfl) (by kernel_rfl) (by kernel_rfl) (EO.openEl hS 2 ad663 rfl a457 h661 h662 (fun A670 C671 => Ass.box 105 g448 [.slice (some ad667) l449.length C451, .slice (some ad663) l453.length C455] :: Ass.own 3 (Kd.int .i64) (some ad667) C451 l449 :: Ass.holed 94 96 kS96 (some ad663) C455 l453 a457.toNat (A670, (l453.getD a457.toNat []).length, C671) :: os) 94 28 (by kernel_rfl) (by kernel_rfl) (by kernel_rfl) (by kernel_rfl) (fun _ _ => rfl) ?_)
        intro A670 C671 hS
        have hC : Core B [Ass.box 105 g448 [.slice (some ad667) l449.length C451, .slice (some ad663) l453.length C455], Ass.own 3 (Kd.int .i64) (some ad667) C451 l449] [] _ := ⟨_, _, hS.re [2, 2] [] rfl sub_self⟩
        refine ⟨hC, ?_⟩
        refine ED.quick hN hF hC [19, 27, 28] [0, 1, 2, 38] 0 [(0, .pointer (some ⟨g448, 0, none⟩)), (1, .int .i64 a457), (2, .int .i64 a458), (38, .bool (decide (((l453.getD a457.toNat []).length : Int) ≥ (l449.getD a457.toNat 0))))] #[true, true, true, true, true, true, true, true, true, true, true, true, true, true, true, true, true, true, true, true, true, true, true, true, true, true, true, true, true] (by kernel_rfl) (by kernel_rfl) ?_
        refine ED.done (by kernel_rfl) ?_
        refine EQ.to ?_
        have hS := St.as (os' := Ass.box 105 g448 [.slice (some ad667) l449.length C451, .slice (some ad663) l453.length C455] :: Ass.own 3 (Kd.int .i64) (some ad667) C451 l449 :: Ass.deep 94 96 kS96 (some ad663) C455 l453 :: os) (St.close hS 0 2 rfl rfl rfl l453 (set_getD _ _)) rfl
        refine EQ.keep [0, 1, 2, 38] [(0, .pointer (some ⟨g448, 0, none⟩)), (1, .int .i64 a457), (2, .int .i64 a458), (38, .bool (decide (((l453.getD a457.toNat []).length : Int) ≥ (l449.getD a457.toNat 0))))] (by kernel_rfl) ?_
        exact fun a ha => ⟨decide (((l453.getD a457.toNat []).length : Int) ≥ (l449.getD a457.toNat 0)), ha, (hS.re [2, 2, 2] [] rfl (sub_self)), H⟩
  · obtain ⟨x657, ha, hS, H⟩ := hI
    rw [hj658] at H
    (try dsimp only at H)
    refine EW.at ?_ a ha
    clear ha a
    refine EW.condP' (o := (.tmp 38)) (x := Cd19.r.l.r.l) (y := Cd19.r.l.r.r) (x657) (by kernel_rfl) (by kernel_rfl) (fun h672 => ?_) (fun h672 => ?_)
    · rw [if_pos h672] at H
      refine EW.seq (x := Cd19.r.l.r.l.l) (y := Cd19.r.l.r.l.r) (by kernel_rfl) ?_
      refine EW.region (id := 2) (ops := Cd19.r.l.r.l.l.ops) (by kernel_rfl) ?_
      refine EL.quick 2 [6, 7] [(6, .int .i32 0), (7, .bool (false))] (by kernel_rfl) ?_
      refine EL.done (by kernel_rfl) ?_
      refine EQ.code ?_
      refine EW.ret (by kernel_rfl) ?_
      refine EQ.ret ?_
      simp only [Option.some.injEq, Prod.mk.injEq] at H
      obtain ⟨rfl, rfl, rfl⟩ := H
      exact EQ.leave (.tuple #[.int .i32 0, .bool (false)]) (by kernel_rfl) ⟨_, rfl, A454, C455, rfl, (hS.re [2, 2, 2] [] rfl (sub_self))⟩
    · rw [if_neg h672] at H
      refine EW.skip (by kernel_rfl) ?_
      refine EQ.code ?_
      refine EW.seq (x := Cd19.r.r.l) (y := Cd19.r.r.r) (by kernel_rfl) ?_
      refine EW.region (id := 3) (ops := Cd19.r.r.l.ops) (by kernel_rfl) ?_
      refine EL.quick 4 [0, 1, 2, 40, 43] [(0, .pointer (some ⟨g448, 0, none⟩)), (1, .int .i64 a457), (2, .int .i64 a458), (40, .int .i64 a457), (43, .pointer (some ⟨g448, 1, none⟩))] (by kernel_rfl) ?_
      refine EL.of (EO.Y (YO.loadBox hS 0 rfl 89 1 1 (.slice A454 l453.length C455) 44 (by kernel_rfl) (by kernel_rfl) (by kernel_rfl) (by kernel_rfl)) ?_)
      refine EL.quick 1 [0, 1, 2, 40, 44, 45] [(0, .pointer (some ⟨g448, 0, none⟩)), (1, .int .i64 a457), (2, .int .i64 a458), (40, .int .i64 a457), (44, .slice A454 l453.length C455), (45, .int .i64 a457)] (by kernel_rfl) ?_
      obtain ⟨h681, H⟩ := ite_in H
      obtain ⟨h682, H⟩ := ite_in H
      obtain ⟨ad683, rfl⟩ := St.deep_some hS 2 rfl h681 h682
      refine EL.of (EO.Y (YO.idx 89 1 ad683 l453.length C455 .i64 a457 46 (by kernel_rfl) (by kernel_rfl) (by kernel_rfl) (by kernel_rfl) h681 h682) ?_)
      refine EL.of (EO.openEl hS 2 ad683 rfl a457 h681 h682 (fun A684 C685 => Ass.box 105 g448 [.slice A450 l449.length C451, .slice (some ad683) l453.length C455] :: Ass.own 3 (Kd.int .i64) A450 C451 l449 :: Ass.holed 94 96 kS96 (some ad683) C455 l453 a457.toNat (A684, (l453.getD a457.toNat []).length, C685) :: os) 94 47 (by kernel_rfl) (by kernel_rfl) (by kernel_rfl) (by kernel_rfl) (fun _ _ => rfl) ?_)
      intro A684 C685 hS
      refine EL.quick 1 [0, 1, 2, 40, 48] [(0, .pointer (some ⟨g448, 0, none⟩)), (1, .int .i64 a457), (2, .int .i64 a458), (40, .int .i64 a457), (48, .int .i64 ((l453.getD a457.toNat []).length : Int))] (by kernel_rfl) ?_
      obtain ⟨t686, t687, hc688, H⟩ := b2_out H
      refine EL.of (EO.callD 47 [.int .i64 a457, .int .i64 ((l453.getD a457.toNat []).length : Int)] _ 49 (by kernel_rfl) (by kernel_rfl) (by kernel_rfl) (confidantref9_Of.calls hc688 hS) ?_)
      rintro v w ⟨rfl, hS⟩
      refine EL.quick 5 [0, 1, 2, 8] [(0, .pointer (some ⟨g448, 0, none⟩)), (1, .int .i64 a457), (2, .int .i64 a458), (8, .int .i32 t686)] (by kernel_rfl) ?_
      refine EL.done (by kernel_rfl) ?_
      refine EQ.code ?_
      refine EW.seq (x := Cd19.r.r.r.l) (y := Cd19.r.r.r.r) (by kernel_rfl) ?_
      obtain ⟨l690, hl690, H⟩ := lt_out H
      obtain ⟨h691, H⟩ := ite_in H
      obtain ⟨l692, hl692, H⟩ := lt_out H
      obtain ⟨l695, hl695, H⟩ := lt_out H
      refine EW.meet (id := 4) (ops := Cd19.r.r.r.l.ops) (fun a w => ∃ A735 : Option Addr, ∃ C736 : Nat, Sat 70 [(8, .int .i32 t686)] a ∧ St B w (Ass.own 96 kS96 A735 C736 l690 :: Ass.box 105 g448 [.slice A450 l449.length C451, .slice (some ad683) l695.length C455] :: Ass.own 3 (Kd.int .i64) A450 C451 l449 :: Ass.deep 94 96 kS96 (some ad683) C455 l695 :: os) (rs)) (by kernel_rfl) ?_ (fun a w hI => ?_)
      · have hS := hS.drew
        refine EW.draw (B := B) (id := 4) (ops := Cd19.r.r.r.l.ops) [Ass.own 3 (Kd.int .i64) A450 C451 l449] [] (by kernel_rfl) (by kernel_rfl) ?_
        have hN : Region.noSelect Cd19.r.r.r.l.ops = true := (by kernel_rfl)
        have hF : freeAll Cd19.r.r.r.l.ops = true := (by kernel_rfl)
        have hC : Core B [Ass.own 3 (Kd.int .i64) A450 C451 l449] [] _ := ⟨_, _, hS.re [2] [] rfl sub_self⟩
        refine ED.quick hN hF hC [0, 1, 2, 4, 5, 6, 7, 9, 12, 13] [8, 54, 56, 59, 61, 65] 8 [(8, .int .i32 t686), (54, .pointer (some ⟨g448, 1, none⟩)), (56, .int .i64 a457), (59, .pointer (some ⟨g448, 1, none⟩)), (61, .int .i64 a457), (65, .agg #[.int .i64 a458, .int .i64 0, .int .i32 0, .int .i64 0])] #[true, true, true, false, true, true, true, true, false, true, false, false, true, true, false, false, false, false] (by kernel_rfl) (by kernel_rfl) ?_
        refine ED.many 3 [8, 14] 7 (by kernel_rfl) (by kernel_rfl) (Each.cons ?_ (Each.cons ?_ (Each.cons ?_ Each.nil)))
        · refine EO.Y (YO.loadBox hS 1 rfl 89 1 1 (.slice (some ad683) l453.length C455) 55 (by kernel_rfl) (by kernel_rfl) (by kernel_rfl) (by kernel_rfl)) ?_
          have hC : Core B [Ass.own 3 (Kd.int .i64) A450 C451 l449] [] _ := ⟨_, _, hS.re [2] [] rfl sub_self⟩
          refine ⟨hC, ?_⟩
          refine ED.at' #[true, true, true, true, true, true, true, true, false, true, false, false, true, true, false, false, false, false] (by kernel_rfl) ?_
          refine ED.two 8 14 6 (by kernel_rfl) (by kernel_rfl) ?_ ?_
          · refine EO.Y (YO.loadBox hS 1 rfl 89 1 1 (.slice (some ad683) l453.length C455) 60 (by kernel_rfl) (by kernel_rfl) (by kernel_rfl) (by kernel_rfl)) ?_
            have hC : Core B [Ass.own 3 (Kd.int .i64) A450 C451 l449] [] _ := ⟨_, _, hS.re [2] [] rfl sub_self⟩
            refine ⟨hC, ?_⟩
            refine ED.at' #[true, true, true, true, true, true, true, true, true, true, false, false, true, true, false, false, false, false] (by kernel_rfl) ?_
            refine ED.Y hN hF hC 10 5 #[true, true, true, true, true, true, true, true, true, true, true, false, true, true, false, false, false, false] (by kernel_rfl) (by kernel_rfl) rfl (fun _ _ _ hS => YO.idx 89 1 ad683 l453.length C455 .i64 a457 62 (by kernel_rfl) (by kernel_rfl) (by kernel_rfl) (by kernel_rfl) h681 h682) ?_
            refine ED.two 11 14 4 (by kernel_rfl) (by kernel_rfl) ?_ ?_
            · refine EO.Y (YO.loadHole hS 3 ad683 (j := a457) rfl h681 94 63 (by kernel_rfl) (by kernel_rfl) (by kernel_rfl) (by kernel_rfl)) ?_
              have hC : Core B [Ass.own 3 (Kd.int .i64) A450 C451 l449] [] _ := ⟨_, _, hS.re [2] [] rfl sub_self⟩
              refine ⟨hC, ?_⟩
              refine ED.at' #[true, true, true, true, true, true, true, true, true, true, true, true, true, true, false, false, false, false] (by kernel_rfl) ?_
              refine ED.one 14 3 #[true, true, true, true, true, true, true, true, true, true, true, true, true, true, true, false, false, false] (by kernel_rfl) (by kernel_rfl) (by kernel_rfl) (EO.lit hS kS96 96 94 1 #[(0, .agg #[.int .i64 a458, .int .i64 0, .int .i32 0, .int .i64 0])] [.int .i64 a458, .int .i64 0, .int .i32 0, .int .i64 0] l690 66 (by kernel_rfl) (by kernel_rfl) (by kernel_rfl) (fun _ => (by kernel_rfl)) (by rw [hl690]; rfl) (by kernel_rfl) (fun w G hr => (by rw [hl690]; exact ⟨[.int .i64 a458, .int .i64 0, .int .i32 0, .int .i64 0], [], rfl, ⟨[.int .i64 a458], [.int .i64 0, .int .i32 0, .int .i64 0], rfl, rfl, ⟨[.int .i64 0], [.int .i32 0, .int .i64 0], rfl, rfl, ⟨[.int .i32 0], [.int .i64 0], rfl, rfl, ⟨[.int .i64 0], [], rfl, rfl, rfl⟩⟩⟩⟩, rfl⟩)) ?_)
              intro g737 w hS
              have hC : Core B [Ass.own 3 (Kd.int .i64) A450 C451 l449] [] _ := ⟨_, _, hS.re [3] [] rfl sub_self⟩
              refine ⟨hC, ?_⟩
              refine ED.one 15 2 #[true, true, true, true, true, true, true, true, true, true, true, true, true, true, true, true, false, false] (by kernel_rfl) (by kernel_rfl) (by kernel_rfl) (EO.append hS 94 94 96 32 1 kS96 A684 C685 (l453.getD a457.toNat []) rfl (some ⟨g737, 0, none⟩) 1 l690 (Rd.own 0 96 rfl) l692 hl692 (fun A738 C739 => Ass.own 96 kS96 (some ⟨g737, 0, none⟩) 1 l690 :: Ass.own 96 kS96 A738 C739 l692 :: Ass.box 105 g448 [.slice A450 l449.length C451, .slice (some ad683) l453.length C455] :: Ass.own 3 (Kd.int .i64) A450 C451 l449 :: Ass.holed 94 96 kS96 (some ad683) C455 l453 a457.toNat (A684, (l453.getD a457.toNat []).length, C685) :: os) 67 (by kernel_rfl) (by kernel_rfl) (by kernel_rfl) (by kernel_rfl) h691 (fun _ _ => rfl) ?_)
              intro A738 C739 w hS
              have hC : Core B [Ass.own 3 (Kd.int .i64) A450 C451 l449] [] _ := ⟨_, _, hS.re [3] [] rfl sub_self⟩
              refine ⟨hC, ?_⟩
              refine ED.Y hN hF hC 16 1 #[true, true, true, true, true, true, true, true, true, true, true, true, true, true, true, true, true, false] (by kernel_rfl) (by kernel_rfl) rfl (fun _ _ _ hS => YO.idx 89 1 ad683 l453.length C455 .i64 a457 68 (by kernel_rfl) (by kernel_rfl) (by kernel_rfl) (by kernel_rfl) h681 h682) ?_
              refine ED.one 17 0 #[true, true, true, true, true, true, true, true, true, true, true, true, true, true, true, true, true, true] (by kernel_rfl) (by kernel_rfl) (by kernel_rfl) (EO.closeEl hS 1 3 ad683 a457 rfl rfl h681 l695 hl695 (Ass.own 96 kS96 (some ⟨g737, 0, none⟩) 1 l690 :: Ass.box 105 g448 [.slice A450 l449.length C451, .slice (some ad683) l453.length C455] :: Ass.own 3 (Kd.int .i64) A450 C451 l449 :: Ass.deep 94 96 kS96 (some ad683) C455 l695 :: os) 94 (by kernel_rfl) (by kernel_rfl) (by kernel_rfl) (by kernel_rfl) rfl ?_)
              intro w hS
              have hS : St B w (Ass.own 96 kS96 (some ⟨g737, 0, none⟩) 1 l690 :: Ass.box 105 g448 [.slice A450 l449.length C451, .slice (some ad683) l695.length C455] :: Ass.own 3 (Kd.int .i64) A450 C451 l449 :: Ass.deep 94 96 kS96 (some ad683) C455 l695 :: os) (rs) := by simpa only [hl695, List.length_set] using hS
              have hC : Core B [Ass.own 3 (Kd.int .i64) A450 C451 l449] [] _ := ⟨_, _, hS.re [2] [] rfl sub_self⟩
              refine ⟨hC, ?_⟩
              refine ED.keep [8, 54, 55, 56, 59, 60, 61, 62, 65, 66, 68] [(8, .int .i32 t686), (54, .pointer (some ⟨g448, 1, none⟩)), (55, .slice (some ad683) l453.length C455), (56, .int .i64 a457), (59, .pointer (some ⟨g448, 1, none⟩)), (60, .slice (some ad683) l453.length C455), (61, .int .i64 a457), (62, .pointer (some ((ad683.add (a457.toNat * 1)).add 0))), (65, .agg #[.int .i64 a458, .int .i64 0, .int .i32 0, .int .i64 0]), (66, .slice (some ⟨g737, 0, none⟩) l690.length 1), (68, .pointer (some ((ad683.add (a457.toNat * 1)).add 0)))] (by kernel_rfl) ?_
              refine ED.as' [(8, .int .i32 t686), (54, .pointer (some ⟨g448, 1, none⟩)), (55, .slice (some ad683) l695.length C455), (56, .int .i64 a457), (59, .pointer (some ⟨g448, 1, none⟩)), (60, .slice (some ad683) l695.length C455), (61, .int .i64 a457), (62, .pointer (some ((ad683.add (a457.toNat * 1)).add 0))), (65, .agg #[.int .i64 a458, .int .i64 0, .int .i32 0, .int .i64 0]), (66, .slice (some ⟨g737, 0, none⟩) l690.length 1), (68, .pointer (some ((ad683.add (a457.toNat * 1)).add 0)))] (by simp only [hl695, List.length_set]) ?_
              refine ED.done (by kernel_rfl) ?_
              refine EQ.to ?_
              refine EQ.keep [8] [(8, .int .i32 t686)] (by kernel_rfl) ?_
              exact fun a ha => ⟨(some ⟨g737, 0, none⟩), 1, ha, (hS.re [3, 3, 3, 3] [] rfl (sub_self))⟩
            · refine EO.lit hS kS96 96 94 1 #[(0, .agg #[.int .i64 a458, .int .i64 0, .int .i32 0, .int .i64 0])] [.int .i64 a458, .int .i64 0, .int .i32 0, .int .i64 0] l690 66 (by kernel_rfl) (by kernel_rfl) (by kernel_rfl) (fun _ => (by kernel_rfl)) (by rw [hl690]; rfl) (by kernel_rfl) (fun w G hr => (by rw [hl690]; exact ⟨[.int .i64 a458, .int .i64 0, .int .i32 0, .int .i64 0], [], rfl, ⟨[.int .i64 a458], [.int .i64 0, .int .i32 0, .int .i64 0], rfl, rfl, ⟨[.int .i64 0], [.int .i32 0, .int .i64 0], rfl, rfl, ⟨[.int .i32 0], [.int .i64 0], rfl, rfl, ⟨[.int .i64 0], [], rfl, rfl, rfl⟩⟩⟩⟩, rfl⟩)) ?_
              intro g740 w hS
              have hC : Core B [Ass.own 3 (Kd.int .i64) A450 C451 l449] [] _ := ⟨_, _, hS.re [3] [] rfl sub_self⟩
              refine ⟨hC, ?_⟩
              refine ED.at' #[true, true, true, true, true, true, true, true, true, true, true, false, true, true, true, false, false, false] (by kernel_rfl) ?_
              refine ED.one 11 3 #[true, true, true, true, true, true, true, true, true, true, true, true, true, true, true, false, false, false] (by kernel_rfl) (by kernel_rfl) (by kernel_rfl) (EO.Y (YO.loadHole hS 4 ad683 (j := a457) rfl h681 94 63 (by kernel_rfl) (by kernel_rfl) (by kernel_rfl) (by kernel_rfl)) ?_)
              have hC : Core B [Ass.own 3 (Kd.int .i64) A450 C451 l449] [] _ := ⟨_, _, hS.re [3] [] rfl sub_self⟩
              refine ⟨hC, ?_⟩
              refine ED.one 15 2 #[true, true, true, true, true, true, true, true, true, true, true, true, true, true, true, true, false, false] (by kernel_rfl) (by kernel_rfl) (by kernel_rfl) (EO.append hS 94 94 96 32 1 kS96 A684 C685 (l453.getD a457.toNat []) rfl (some ⟨g740, 0, none⟩) 1 l690 (Rd.own 0 96 rfl) l692 hl692 (fun A741 C742 => Ass.own 96 kS96 (some ⟨g740, 0, none⟩) 1 l690 :: Ass.own 96 kS96 A741 C742 l692 :: Ass.box 105 g448 [.slice A450 l449.length C451, .slice (some ad683) l453.length C455] :: Ass.own 3 (Kd.int .i64) A450 C451 l449 :: Ass.holed 94 96 kS96 (some ad683) C455 l453 a457.toNat (A684, (l453.getD a457.toNat []).length, C685) :: os) 67 (by kernel_rfl) (by kernel_rfl) (by kernel_rfl) (by kernel_rfl) h691 (fun _ _ => rfl) ?_)
              intro A741 C742 w hS
              have hC : Core B [Ass.own 3 (Kd.int .i64) A450 C451 l449] [] _ := ⟨_, _, hS.re [3] [] rfl sub_self⟩
              refine ⟨hC, ?_⟩
              refine ED.Y hN hF hC 16 1 #[true, true, true, true, true, true, true, true, true, true, true, true, true, true, true, true, true, false] (by kernel_rfl) (by kernel_rfl) rfl (fun _ _ _ hS => YO.idx 89 1 ad683 l453.length C455 .i64 a457 68 (by kernel_rfl) (by kernel_rfl) (by kernel_rfl) (by kernel_rfl) h681 h682) ?_
              refine ED.one 17 0 #[true, true, true, true, true, true, true, true, true, true, true, true, true, true, true, true, true, true] (by kernel_rfl) (by kernel_rfl) (by kernel_rfl) (EO.closeEl hS 1 3 ad683 a457 rfl rfl h681 l695 hl695 (Ass.own 96 kS96 (some ⟨g740, 0, none⟩) 1 l690 :: Ass.box 105 g448 [.slice A450 l449.length C451, .slice (some ad683) l453.length C455] :: Ass.own 3 (Kd.int .i64) A450 C451 l449 :: Ass.deep 94 96 kS96 (some ad683) C455 l695 :: os) 94 (by kernel_rfl) (by kernel_rfl) (by kernel_rfl) (by kernel_rfl) rfl ?_)
              intro w hS
              have hS : St B w (Ass.own 96 kS96 (some ⟨g740, 0, none⟩) 1 l690 :: Ass.box 105 g448 [.slice A450 l449.length C451, .slice (some ad683) l695.length C455] :: Ass.own 3 (Kd.int .i64) A450 C451 l449 :: Ass.deep 94 96 kS96 (some ad683) C455 l695 :: os) (rs) := by simpa only [hl695, List.length_set] using hS
              have hC : Core B [Ass.own 3 (Kd.int .i64) A450 C451 l449] [] _ := ⟨_, _, hS.re [2] [] rfl sub_self⟩
              refine ⟨hC, ?_⟩
              refine ED.keep [8, 54, 55, 56, 59, 60, 61, 62, 65, 66, 68] [(8, .int .i32 t686), (54, .pointer (some ⟨g448, 1, none⟩)), (55, .slice (some ad683) l453.length C455), (56, .int .i64 a457), (59, .pointer (some ⟨g448, 1, none⟩)), (60, .slice (some ad683) l453.length C455), (61, .int .i64 a457), (62, .pointer (some ((ad683.add (a457.toNat * 1)).add 0))), (65, .agg #[.int .i64 a458, .int .i64 0, .int .i32 0, .int .i64 0]), (66, .slice (some ⟨g740, 0, none⟩) l690.length 1), (68, .pointer (some ((ad683.add (a457.toNat * 1)).add 0)))] (by kernel_rfl) ?_
              refine ED.as' [(8, .int .i32 t686), (54, .pointer (some ⟨g448, 1, none⟩)), (55, .slice (some ad683) l695.length C455), (56, .int .i64 a457), (59, .pointer (some ⟨g448, 1, none⟩)), (60, .slice (some ad683) l695.length C455), (61, .int .i64 a457), (62, .pointer (some ((ad683.add (a457.toNat * 1)).add 0))), (65, .agg #[.int .i64 a458, .int .i64 0, .int .i32 0, .int .i64 0]), (66, .slice (some ⟨g740, 0, none⟩) l690.length 1), (68, .pointer (some ((ad683.add (a457.toNat * 1)).add 0)))] (by simp only [hl695, List.length_set]) ?_
              refine ED.done (by kernel_rfl) ?_
              refine EQ.to ?_
              refine EQ.keep [8] [(8, .int .i32 t686)] (by kernel_rfl) ?_
              exact fun a ha => ⟨(some ⟨g740, 0, none⟩), 1, ha, (hS.re [3, 3, 3, 3] [] rfl (sub_self))⟩
          · refine EO.lit hS kS96 96 94 1 #[(0, .agg #[.int .i64 a458, .int .i64 0, .int .i32 0, .int .i64 0])] [.int .i64 a458, .int .i64 0, .int .i32 0, .int .i64 0] l690 66 (by kernel_rfl) (by kernel_rfl) (by kernel_rfl) (fun _ => (by kernel_rfl)) (by rw [hl690]; rfl) (by kernel_rfl) (fun w G hr => (by rw [hl690]; exact ⟨[.int .i64 a458, .int .i64 0, .int .i32 0, .int .i64 0], [], rfl, ⟨[.int .i64 a458], [.int .i64 0, .int .i32 0, .int .i64 0], rfl, rfl, ⟨[.int .i64 0], [.int .i32 0, .int .i64 0], rfl, rfl, ⟨[.int .i32 0], [.int .i64 0], rfl, rfl, ⟨[.int .i64 0], [], rfl, rfl, rfl⟩⟩⟩⟩, rfl⟩)) ?_
            intro g743 w hS
            have hC : Core B [Ass.own 3 (Kd.int .i64) A450 C451 l449] [] _ := ⟨_, _, hS.re [3] [] rfl sub_self⟩
            refine ⟨hC, ?_⟩
            refine ED.at' #[true, true, true, true, true, true, true, true, false, true, false, false, true, true, true, false, false, false] (by kernel_rfl) ?_
            refine ED.one 8 5 #[true, true, true, true, true, true, true, true, true, true, false, false, true, true, true, false, false, false] (by kernel_rfl) (by kernel_rfl) (by kernel_rfl) (EO.Y (YO.loadBox hS 2 rfl 89 1 1 (.slice (some ad683) l453.length C455) 60 (by kernel_rfl) (by kernel_rfl) (by kernel_rfl) (by kernel_rfl)) ?_)
            have hC : Core B [Ass.own 3 (Kd.int .i64) A450 C451 l449] [] _ := ⟨_, _, hS.re [3] [] rfl sub_self⟩
            refine ⟨hC, ?_⟩
            refine ED.Y hN hF hC 10 4 #[true, true, true, true, true, true, true, true, true, true, true, false, true, true, true, false, false, false] (by kernel_rfl) (by kernel_rfl) rfl (fun _ _ _ hS => YO.idx 89 1 ad683 l453.length C455 .i64 a457 62 (by kernel_rfl) (by kernel_rfl) (by kernel_rfl) (by kernel_rfl) h681 h682) ?_
            refine ED.one 11 3 #[true, true, true, true, true, true, true, true, true, true, true, true, true, true, true, false, false, false] (by kernel_rfl) (by kernel_rfl) (by kernel_rfl) (EO.Y (YO.loadHole hS 4 ad683 (j := a457) rfl h681 94 63 (by kernel_rfl) (by kernel_rfl) (by kernel_rfl) (by kernel_rfl)) ?_)
            have hC : Core B [Ass.own 3 (Kd.int .i64) A450 C451 l449] [] _ := ⟨_, _, hS.re [3] [] rfl sub_self⟩
            refine ⟨hC, ?_⟩
            refine ED.one 15 2 #[true, true, true, true, true, true, true, true, true, true, true, true, true, true, true, true, false, false] (by kernel_rfl) (by kernel_rfl) (by kernel_rfl) (EO.append hS 94 94 96 32 1 kS96 A684 C685 (l453.getD a457.toNat []) rfl (some ⟨g743, 0, none⟩) 1 l690 (Rd.own 0 96 rfl) l692 hl692 (fun A744 C745 => Ass.own 96 kS96 (some ⟨g743, 0, none⟩) 1 l690 :: Ass.own 96 kS96 A744 C745 l692 :: Ass.box 105 g448 [.slice A450 l449.length C451, .slice (some ad683) l453.length C455] :: Ass.own 3 (Kd.int .i64) A450 C451 l449 :: Ass.holed 94 96 kS96 (some ad683) C455 l453 a457.toNat (A684, (l453.getD a457.toNat []).length, C685) :: os) 67 (by kernel_rfl) (by kernel_rfl) (by kernel_rfl) (by kernel_rfl) h691 (fun _ _ => rfl) ?_)
            intro A744 C745 w hS
            have hC : Core B [Ass.own 3 (Kd.int .i64) A450 C451 l449] [] _ := ⟨_, _, hS.re [3] [] rfl sub_self⟩
            refine ⟨hC, ?_⟩
            refine ED.Y hN hF hC 16 1 #[true, true, true, true, true, true, true, true, true, true, true, true, true, true, true, true, true, false] (by kernel_rfl) (by kernel_rfl) rfl (fun _ _ _ hS => YO.idx 89 1 ad683 l453.length C455 .i64 a457 68 (by kernel_rfl) (by kernel_rfl) (by kernel_rfl) (by kernel_rfl) h681 h682) ?_
            refine ED.one 17 0 #[true, true, true, true, true, true, true, true, true, true, true, true, true, true, true, true, true, true] (by kernel_rfl) (by kernel_rfl) (by kernel_rfl) (EO.closeEl hS 1 3 ad683 a457 rfl rfl h681 l695 hl695 (Ass.own 96 kS96 (some ⟨g743, 0, none⟩) 1 l690 :: Ass.box 105 g448 [.slice A450 l449.length C451, .slice (some ad683) l453.length C455] :: Ass.own 3 (Kd.int .i64) A450 C451 l449 :: Ass.deep 94 96 kS96 (some ad683) C455 l695 :: os) 94 (by kernel_rfl) (by kernel_rfl) (by kernel_rfl) (by kernel_rfl) rfl ?_)
            intro w hS
            have hS : St B w (Ass.own 96 kS96 (some ⟨g743, 0, none⟩) 1 l690 :: Ass.box 105 g448 [.slice A450 l449.length C451, .slice (some ad683) l695.length C455] :: Ass.own 3 (Kd.int .i64) A450 C451 l449 :: Ass.deep 94 96 kS96 (some ad683) C455 l695 :: os) (rs) := by simpa only [hl695, List.length_set] using hS
            have hC : Core B [Ass.own 3 (Kd.int .i64) A450 C451 l449] [] _ := ⟨_, _, hS.re [2] [] rfl sub_self⟩
            refine ⟨hC, ?_⟩
            refine ED.keep [8, 54, 55, 56, 59, 60, 61, 62, 65, 66, 68] [(8, .int .i32 t686), (54, .pointer (some ⟨g448, 1, none⟩)), (55, .slice (some ad683) l453.length C455), (56, .int .i64 a457), (59, .pointer (some ⟨g448, 1, none⟩)), (60, .slice (some ad683) l453.length C455), (61, .int .i64 a457), (62, .pointer (some ((ad683.add (a457.toNat * 1)).add 0))), (65, .agg #[.int .i64 a458, .int .i64 0, .int .i32 0, .int .i64 0]), (66, .slice (some ⟨g743, 0, none⟩) l690.length 1), (68, .pointer (some ((ad683.add (a457.toNat * 1)).add 0)))] (by kernel_rfl) ?_
            refine ED.as' [(8, .int .i32 t686), (54, .pointer (some ⟨g448, 1, none⟩)), (55, .slice (some ad683) l695.length C455), (56, .int .i64 a457), (59, .pointer (some ⟨g448, 1, none⟩)), (60, .slice (some ad683) l695.length C455), (61, .int .i64 a457), (62, .pointer (some ((ad683.add (a457.toNat * 1)).add 0))), (65, .agg #[.int .i64 a458, .int .i64 0, .int .i32 0, .int .i64 0]), (66, .slice (some ⟨g743, 0, none⟩) l690.length 1), (68, .pointer (some ((ad683.add (a457.toNat * 1)).add 0)))] (by simp only [hl695, List.length_set]) ?_
            refine ED.done (by kernel_rfl) ?_
            refine EQ.to ?_
            refine EQ.keep [8] [(8, .int .i32 t686)] (by kernel_rfl) ?_
            exact fun a ha => ⟨(some ⟨g743, 0, none⟩), 1, ha, (hS.re [3, 3, 3, 3] [] rfl (sub_self))⟩
        · refine EO.Y (YO.loadBox hS 1 rfl 89 1 1 (.slice (some ad683) l453.length C455) 60 (by kernel_rfl) (by kernel_rfl) (by kernel_rfl) (by kernel_rfl)) ?_
          have hC : Core B [Ass.own 3 (Kd.int .i64) A450 C451 l449] [] _ := ⟨_, _, hS.re [2] [] rfl sub_self⟩
          refine ⟨hC, ?_⟩
          refine ED.at' #[true, true, true, false, true, true, true, true, true, true, false, false, true, true, false, false, false, false] (by kernel_rfl) ?_
          refine ED.Y hN hF hC 10 6 #[true, true, true, false, true, true, true, true, true, true, true, false, true, true, false, false, false, false] (by kernel_rfl) (by kernel_rfl) rfl (fun _ _ _ hS => YO.idx 89 1 ad683 l453.length C455 .i64 a457 62 (by kernel_rfl) (by kernel_rfl) (by kernel_rfl) (by kernel_rfl) h681 h682) ?_
          refine ED.many 3 [11, 14] 5 (by kernel_rfl) (by kernel_rfl) (Each.cons ?_ (Each.cons ?_ (Each.cons ?_ Each.nil)))
          · refine EO.Y (YO.loadBox hS 1 rfl 89 1 1 (.slice (some ad683) l453.length C455) 55 (by kernel_rfl) (by kernel_rfl) (by kernel_rfl) (by kernel_rfl)) ?_
            have hC : Core B [Ass.own 3 (Kd.int .i64) A450 C451 l449] [] _ := ⟨_, _, hS.re [2] [] rfl sub_self⟩
            refine ⟨hC, ?_⟩
            refine ED.at' #[true, true, true, true, true, true, true, true, true, true, true, false, true, true, false, false, false, false] (by kernel_rfl) ?_
            refine ED.two 11 14 4 (by kernel_rfl) (by kernel_rfl) ?_ ?_
            · refine EO.Y (YO.loadHole hS 3 ad683 (j := a457) rfl h681 94 63 (by kernel_rfl) (by kernel_rfl) (by kernel_rfl) (by kernel_rfl)) ?_
              have hC : Core B [Ass.own 3 (Kd.int .i64) A450 C451 l449] [] _ := ⟨_, _, hS.re [2] [] rfl sub_self⟩
              refine ⟨hC, ?_⟩
              refine ED.at' #[true, true, true, true, true, true, true, true, true, true, true, true, true, true, false, false, false, false] (by kernel_rfl) ?_
              refine ED.one 14 3 #[true, true, true, true, true, true, true, true, true, true, true, true, true, true, true, false, false, false] (by kernel_rfl) (by kernel_rfl) (by kernel_rfl) (EO.lit hS kS96 96 94 1 #[(0, .agg #[.int .i64 a458, .int .i64 0, .int .i32 0, .int .i64 0])] [.int .i64 a458, .int .i64 0, .int .i32 0, .int .i64 0] l690 66 (by kernel_rfl) (by kernel_rfl) (by kernel_rfl) (fun _ => (by kernel_rfl)) (by rw [hl690]; rfl) (by kernel_rfl) (fun w G hr => (by rw [hl690]; exact ⟨[.int .i64 a458, .int .i64 0, .int .i32 0, .int .i64 0], [], rfl, ⟨[.int .i64 a458], [.int .i64 0, .int .i32 0, .int .i64 0], rfl, rfl, ⟨[.int .i64 0], [.int .i32 0, .int .i64 0], rfl, rfl, ⟨[.int .i32 0], [.int .i64 0], rfl, rfl, ⟨[.int .i64 0], [], rfl, rfl, rfl⟩⟩⟩⟩, rfl⟩)) ?_)
              intro g746 w hS
              have hC : Core B [Ass.own 3 (Kd.int .i64) A450 C451 l449] [] _ := ⟨_, _, hS.re [3] [] rfl sub_self⟩
              refine ⟨hC, ?_⟩
              refine ED.one 15 2 #[true, true, true, true, true, true, true, true, true, true, true, true, true, true, true, true, false, false] (by kernel_rfl) (by kernel_rfl) (by kernel_rfl) (EO.append hS 94 94 96 32 1 kS96 A684 C685 (l453.getD a457.toNat []) rfl (some ⟨g746, 0, none⟩) 1 l690 (Rd.own 0 96 rfl) l692 hl692 (fun A747 C748 => Ass.own 96 kS96 (some ⟨g746, 0, none⟩) 1 l690 :: Ass.own 96 kS96 A747 C748 l692 :: Ass.box 105 g448 [.slice A450 l449.length C451, .slice (some ad683) l453.length C455] :: Ass.own 3 (Kd.int .i64) A450 C451 l449 :: Ass.holed 94 96 kS96 (some ad683) C455 l453 a457.toNat (A684, (l453.getD a457.toNat []).length, C685) :: os) 67 (by kernel_rfl) (by kernel_rfl) (by kernel_rfl) (by kernel_rfl) h691 (fun _ _ => rfl) ?_)
              intro A747 C748 w hS
              have hC : Core B [Ass.own 3 (Kd.int .i64) A450 C451 l449] [] _ := ⟨_, _, hS.re [3] [] rfl sub_self⟩
              refine ⟨hC, ?_⟩
              refine ED.Y hN hF hC 16 1 #[true, true, true, true, true, true, true, true, true, true, true, true, true, true, true, true, true, false] (by kernel_rfl) (by kernel_rfl) rfl (fun _ _ _ hS => YO.idx 89 1 ad683 l453.length C455 .i64 a457 68 (by kernel_rfl) (by kernel_rfl) (by kernel_rfl) (by kernel_rfl) h681 h682) ?_
              refine ED.one 17 0 #[true, true, true, true, true, true, true, true, true, true, true, true, true, true, true, true, true, true] (by kernel_rfl) (by kernel_rfl) (by kernel_rfl) (EO.closeEl hS 1 3 ad683 a457 rfl rfl h681 l695 hl695 (Ass.own 96 kS96 (some ⟨g746, 0, none⟩) 1 l690 :: Ass.box 105 g448 [.slice A450 l449.length C451, .slice (some ad683) l453.length C455] :: Ass.own 3 (Kd.int .i64) A450 C451 l449 :: Ass.deep 94 96 kS96 (some ad683) C455 l695 :: os) 94 (by kernel_rfl) (by kernel_rfl) (by kernel_rfl) (by kernel_rfl) rfl ?_)
              intro w hS
              have hS : St B w (Ass.own 96 kS96 (some ⟨g746, 0, none⟩) 1 l690 :: Ass.box 105 g448 [.slice A450 l449.length C451, .slice (some ad683) l695.length C455] :: Ass.own 3 (Kd.int .i64) A450 C451 l449 :: Ass.deep 94 96 kS96 (some ad683) C455 l695 :: os) (rs) := by simpa only [hl695, List.length_set] using hS
              have hC : Core B [Ass.own 3 (Kd.int .i64) A450 C451 l449] [] _ := ⟨_, _, hS.re [2] [] rfl sub_self⟩
              refine ⟨hC, ?_⟩
              refine ED.keep [8, 54, 55, 56, 59, 60, 61, 62, 65, 66, 68] [(8, .int .i32 t686), (54, .pointer (some ⟨g448, 1, none⟩)), (55, .slice (some ad683) l453.length C455), (56, .int .i64 a457), (59, .pointer (some ⟨g448, 1, none⟩)), (60, .slice (some ad683) l453.length C455), (61, .int .i64 a457), (62, .pointer (some ((ad683.add (a457.toNat * 1)).add 0))), (65, .agg #[.int .i64 a458, .int .i64 0, .int .i32 0, .int .i64 0]), (66, .slice (some ⟨g746, 0, none⟩) l690.length 1), (68, .pointer (some ((ad683.add (a457.toNat * 1)).add 0)))] (by kernel_rfl) ?_
              refine ED.as' [(8, .int .i32 t686), (54, .pointer (some ⟨g448, 1, none⟩)), (55, .slice (some ad683) l695.length C455), (56, .int .i64 a457), (59, .pointer (some ⟨g448, 1, none⟩)), (60, .slice (some ad683) l695.length C455), (61, .int .i64 a457), (62, .pointer (some ((ad683.add (a457.toNat * 1)).add 0))), (65, .agg #[.int .i64 a458, .int .i64 0, .int .i32 0, .int .i64 0]), (66, .slice (some ⟨g746, 0, none⟩) l690.length 1), (68, .pointer (some ((ad683.add (a457.toNat * 1)).add 0)))] (by simp only [hl695, List.length_set]) ?_
              refine ED.done (by kernel_rfl) ?_
              refine EQ.to ?_
              refine EQ.keep [8] [(8, .int .i32 t686)] (by kernel_rfl) ?_
              exact fun a ha => ⟨(some ⟨g746, 0, none⟩), 1, ha, (hS.re [3, 3, 3, 3] [] rfl (sub_self))⟩
            · refine EO.lit hS kS96 96 94 1 #[(0, .agg #[.int .i64 a458, .int .i64 0, .int .i32 0, .int .i64 0])] [.int .i64 a458, .int .i64 0, .int .i32 0, .int .i64 0] l690 66 (by kernel_rfl) (by kernel_rfl) (by kernel_rfl) (fun _ => (by kernel_rfl)) (by rw [hl690]; rfl) (by kernel_rfl) (fun w G hr => (by rw [hl690]; exact ⟨[.int .i64 a458, .int .i64 0, .int .i32 0, .int .i64 0], [], rfl, ⟨[.int .i64 a458], [.int .i64 0, .int .i32 0, .int .i64 0], rfl, rfl, ⟨[.int .i64 0], [.int .i32 0, .int .i64 0], rfl, rfl, ⟨[.int .i32 0], [.int .i64 0], rfl, rfl, ⟨[.int .i64 0], [], rfl, rfl, rfl⟩⟩⟩⟩, rfl⟩)) ?_
              intro g749 w hS
              have hC : Core B [Ass.own 3 (Kd.int .i64) A450 C451 l449] [] _ := ⟨_, _, hS.re [3] [] rfl sub_self⟩
              refine ⟨hC, ?_⟩
              refine ED.at' #[true, true, true, true, true, true, true, true, true, true, true, false, true, true, true, false, false, false] (by kernel_rfl) ?_
              refine ED.one 11 3 #[true, true, true, true, true, true, true, true, true, true, true, true, true, true, true, false, false, false] (by kernel_rfl) (by kernel_rfl) (by kernel_rfl) (EO.Y (YO.loadHole hS 4 ad683 (j := a457) rfl h681 94 63 (by kernel_rfl) (by kernel_rfl) (by kernel_rfl) (by kernel_rfl)) ?_)
              have hC : Core B [Ass.own 3 (Kd.int .i64) A450 C451 l449] [] _ := ⟨_, _, hS.re [3] [] rfl sub_self⟩
              refine ⟨hC, ?_⟩
              refine ED.one 15 2 #[true, true, true, true, true, true, true, true, true, true, true, true, true, true, true, true, false, false] (by kernel_rfl) (by kernel_rfl) (by kernel_rfl) (EO.append hS 94 94 96 32 1 kS96 A684 C685 (l453.getD a457.toNat []) rfl (some ⟨g749, 0, none⟩) 1 l690 (Rd.own 0 96 rfl) l692 hl692 (fun A750 C751 => Ass.own 96 kS96 (some ⟨g749, 0, none⟩) 1 l690 :: Ass.own 96 kS96 A750 C751 l692 :: Ass.box 105 g448 [.slice A450 l449.length C451, .slice (some ad683) l453.length C455] :: Ass.own 3 (Kd.int .i64) A450 C451 l449 :: Ass.holed 94 96 kS96 (some ad683) C455 l453 a457.toNat (A684, (l453.getD a457.toNat []).length, C685) :: os) 67 (by kernel_rfl) (by kernel_rfl) (by kernel_rfl) (by kernel_rfl) h691 (fun _ _ => rfl) ?_)
              intro A750 C751 w hS
              have hC : Core B [Ass.own 3 (Kd.int .i64) A450 C451 l449] [] _ := ⟨_, _, hS.re [3] [] rfl sub_self⟩
              refine ⟨hC, ?_⟩
              refine ED.Y hN hF hC 16 1 #[true, true, true, true, true, true, true, true, true, true, true, true, true, true, true, true, true, false] (by kernel_rfl) (by kernel_rfl) rfl (fun _ _ _ hS => YO.idx 89 1 ad683 l453.length C455 .i64 a457 68 (by kernel_rfl) (by kernel_rfl) (by kernel_rfl) (by kernel_rfl) h681 h682) ?_
              refine ED.one 17 0 #[true, true, true, true, true, true, true, true, true, true, true, true, true, true, true, true, true, true] (by kernel_rfl) (by kernel_rfl) (by kernel_rfl) (EO.closeEl hS 1 3 ad683 a457 rfl rfl h681 l695 hl695 (Ass.own 96 kS96 (some ⟨g749, 0, none⟩) 1 l690 :: Ass.box 105 g448 [.slice A450 l449.length C451, .slice (some ad683) l453.length C455] :: Ass.own 3 (Kd.int .i64) A450 C451 l449 :: Ass.deep 94 96 kS96 (some ad683) C455 l695 :: os) 94 (by kernel_rfl) (by kernel_rfl) (by kernel_rfl) (by kernel_rfl) rfl ?_)
              intro w hS
              have hS : St B w (Ass.own 96 kS96 (some ⟨g749, 0, none⟩) 1 l690 :: Ass.box 105 g448 [.slice A450 l449.length C451, .slice (some ad683) l695.length C455] :: Ass.own 3 (Kd.int .i64) A450 C451 l449 :: Ass.deep 94 96 kS96 (some ad683) C455 l695 :: os) (rs) := by simpa only [hl695, List.length_set] using hS
              have hC : Core B [Ass.own 3 (Kd.int .i64) A450 C451 l449] [] _ := ⟨_, _, hS.re [2] [] rfl sub_self⟩
              refine ⟨hC, ?_⟩
              refine ED.keep [8, 54, 55, 56, 59, 60, 61, 62, 65, 66, 68] [(8, .int .i32 t686), (54, .pointer (some ⟨g448, 1, none⟩)), (55, .slice (some ad683) l453.length C455), (56, .int .i64 a457), (59, .pointer (some ⟨g448, 1, none⟩)), (60, .slice (some ad683) l453.length C455), (61, .int .i64 a457), (62, .pointer (some ((ad683.add (a457.toNat * 1)).add 0))), (65, .agg #[.int .i64 a458, .int .i64 0, .int .i32 0, .int .i64 0]), (66, .slice (some ⟨g749, 0, none⟩) l690.length 1), (68, .pointer (some ((ad683.add (a457.toNat * 1)).add 0)))] (by kernel_rfl) ?_
              refine ED.as' [(8, .int .i32 t686), (54, .pointer (some ⟨g448, 1, none⟩)), (55, .slice (some ad683) l695.length C455), (56, .int .i64 a457), (59, .pointer (some ⟨g448, 1, none⟩)), (60, .slice (some ad683) l695.length C455), (61, .int .i64 a457), (62, .pointer (some ((ad683.add (a457.toNat * 1)).add 0))), (65, .agg #[.int .i64 a458, .int .i64 0, .int .i32 0, .int .i64 0]), (66, .slice (some ⟨g749, 0, none⟩) l690.length 1), (68, .pointer (some ((ad683.add (a457.toNat * 1)).add 0)))] (by simp only [hl695, List.length_set]) ?_
              refine ED.done (by kernel_rfl) ?_
              refine EQ.to ?_
              refine EQ.keep [8] [(8, .int .i32 t686)] (by kernel_rfl) ?_
              exact fun a ha => ⟨(some ⟨g749, 0, none⟩), 1, ha, (hS.re [3, 3, 3, 3] [] rfl (sub_self))⟩
          · refine EO.Y (YO.loadHole hS 3 ad683 (j := a457) rfl h681 94 63 (by kernel_rfl) (by kernel_rfl) (by kernel_rfl) (by kernel_rfl)) ?_
            have hC : Core B [Ass.own 3 (Kd.int .i64) A450 C451 l449] [] _ := ⟨_, _, hS.re [2] [] rfl sub_self⟩
            refine ⟨hC, ?_⟩
            refine ED.at' #[true, true, true, false, true, true, true, true, true, true, true, true, true, true, false, false, false, false] (by kernel_rfl) ?_
            refine ED.two 3 14 4 (by kernel_rfl) (by kernel_rfl) ?_ ?_
            · refine EO.Y (YO.loadBox hS 1 rfl 89 1 1 (.slice (some ad683) l453.length C455) 55 (by kernel_rfl) (by kernel_rfl) (by kernel_rfl) (by kernel_rfl)) ?_
              have hC : Core B [Ass.own 3 (Kd.int .i64) A450 C451 l449] [] _ := ⟨_, _, hS.re [2] [] rfl sub_self⟩
              refine ⟨hC, ?_⟩
              refine ED.at' #[true, true, true, true, true, true, true, true, true, true, true, true, true, true, false, false, false, false] (by kernel_rfl) ?_
              refine ED.one 14 3 #[true, true, true, true, true, true, true, true, true, true, true, true, true, true, true, false, false, false] (by kernel_rfl) (by kernel_rfl) (by kernel_rfl) (EO.lit hS kS96 96 94 1 #[(0, .agg #[.int .i64 a458, .int .i64 0, .int .i32 0, .int .i64 0])] [.int .i64 a458, .int .i64 0, .int .i32 0, .int .i64 0] l690 66 (by kernel_rfl) (by kernel_rfl) (by kernel_rfl) (fun _ => (by kernel_rfl)) (by rw [hl690]; rfl) (by kernel_rfl) (fun w G hr => (by rw [hl690]; exact ⟨[.int .i64 a458, .int .i64 0, .int .i32 0, .int .i64 0], [], rfl, ⟨[.int .i64 a458], [.int .i64 0, .int .i32 0, .int .i64 0], rfl, rfl, ⟨[.int .i64 0], [.int .i32 0, .int .i64 0], rfl, rfl, ⟨[.int .i32 0], [.int .i64 0], rfl, rfl, ⟨[.int .i64 0], [], rfl, rfl, rfl⟩⟩⟩⟩, rfl⟩)) ?_)
              intro g752 w hS
              have hC : Core B [Ass.own 3 (Kd.int .i64) A450 C451 l449] [] _ := ⟨_, _, hS.re [3] [] rfl sub_self⟩
              refine ⟨hC, ?_⟩
              refine ED.one 15 2 #[true, true, true, true, true, true, true, true, true, true, true, true, true, true, true, true, false, false] (by kernel_rfl) (by kernel_rfl) (by kernel_rfl) (EO.append hS 94 94 96 32 1 kS96 A684 C685 (l453.getD a457.toNat []) rfl (some ⟨g752, 0, none⟩) 1 l690 (Rd.own 0 96 rfl) l692 hl692 (fun A753 C754 => Ass.own 96 kS96 (some ⟨g752, 0, none⟩) 1 l690 :: Ass.own 96 kS96 A753 C754 l692 :: Ass.box 105 g448 [.slice A450 l449.length C451, .slice (some ad683) l453.length C455] :: Ass.own 3 (Kd.int .i64) A450 C451 l449 :: Ass.holed 94 96 kS96 (some ad683) C455 l453 a457.toNat (A684, (l453.getD a457.toNat []).length, C685) :: os) 67 (by kernel_rfl) (by kernel_rfl) (by kernel_rfl) (by kernel_rfl) h691 (fun _ _ => rfl) ?_)
              intro A753 C754 w hS
              have hC : Core B [Ass.own 3 (Kd.int .i64) A450 C451 l449] [] _ := ⟨_, _, hS.re [3] [] rfl sub_self⟩
              refine ⟨hC, ?_⟩
              refine ED.Y hN hF hC 16 1 #[true, true, true, true, true, true, true, true, true, true, true, true, true, true, true, true, true, false] (by kernel_rfl) (by kernel_rfl) rfl (fun _ _ _ hS => YO.idx 89 1 ad683 l453.length C455 .i64 a457 68 (by kernel_rfl) (by kernel_rfl) (by kernel_rfl) (by kernel_rfl) h681 h682) ?_
              refine ED.one 17 0 #[true, true, true, true, true, true, true, true, true, true, true, true, true, true, true, true, true, true] (by kernel_rfl) (by kernel_rfl) (by kernel_rfl) (EO.closeEl hS 1 3 ad683 a457 rfl rfl h681 l695 hl695 (Ass.own 96 kS96 (some ⟨g752, 0, none⟩) 1 l690 :: Ass.box 105 g448 [.slice A450 l449.length C451, .slice (some ad683) l453.length C455] :: Ass.own 3 (Kd.int .i64) A450 C451 l449 :: Ass.deep 94 96 kS96 (some ad683) C455 l695 :: os) 94 (by kernel_rfl) (by kernel_rfl) (by kernel_rfl) (by kernel_rfl) rfl ?_)
              intro w hS
              have hS : St B w (Ass.own 96 kS96 (some ⟨g752, 0, none⟩) 1 l690 :: Ass.box 105 g448 [.slice A450 l449.length C451, .slice (some ad683) l695.length C455] :: Ass.own 3 (Kd.int .i64) A450 C451 l449 :: Ass.deep 94 96 kS96 (some ad683) C455 l695 :: os) (rs) := by simpa only [hl695, List.length_set] using hS
              have hC : Core B [Ass.own 3 (Kd.int .i64) A450 C451 l449] [] _ := ⟨_, _, hS.re [2] [] rfl sub_self⟩
              refine ⟨hC, ?_⟩
              refine ED.keep [8, 54, 55, 56, 59, 60, 61, 62, 65, 66, 68] [(8, .int .i32 t686), (54, .pointer (some ⟨g448, 1, none⟩)), (55, .slice (some ad683) l453.length C455), (56, .int .i64 a457), (59, .pointer (some ⟨g448, 1, none⟩)), (60, .slice (some ad683) l453.length C455), (61, .int .i64 a457), (62, .pointer (some ((ad683.add (a457.toNat * 1)).add 0))), (65, .agg #[.int .i64 a458, .int .i64 0, .int .i32 0, .int .i64 0]), (66, .slice (some ⟨g752, 0, none⟩) l690.length 1), (68, .pointer (some ((ad683.add (a457.toNat * 1)).add 0)))] (by kernel_rfl) ?_
              refine ED.as' [(8, .int .i32 t686), (54, .pointer (some ⟨g448, 1, none⟩)), (55, .slice (some ad683) l695.length C455), (56, .int .i64 a457), (59, .pointer (some ⟨g448, 1, none⟩)), (60, .slice (some ad683) l695.length C455), (61, .int .i64 a457), (62, .pointer (some ((ad683.add (a457.toNat * 1)).add 0))), (65, .agg #[.int .i64 a458, .int .i64 0, .int .i32 0, .int .i64 0]), (66, .slice (some ⟨g752, 0, none⟩) l690.length 1), (68, .pointer (some ((ad683.add (a457.toNat * 1)).add 0)))] (by simp only [hl695, List.length_set]) ?_
              refine ED.done (by kernel_rfl) ?_
              refine EQ.to ?_
              refine EQ.keep [8] [(8, .int .i32 t686)] (by kernel_rfl) ?_
              exact fun a ha => ⟨(some ⟨g752, 0, none⟩), 1, ha, (hS.re [3, 3, 3, 3] [] rfl (sub_self))⟩
            · refine EO.lit hS kS96 96 94 1 #[(0, .agg #[.int .i64 a458, .int .i64 0, .int .i32 0, .int .i64 0])] [.int .i64 a458, .int .i64 0, .int .i32 0, .int .i64 0] l690 66 (by kernel_rfl) (by kernel_rfl) (by kernel_rfl) (fun _ => (by kernel_rfl)) (by rw [hl690]; rfl) (by kernel_rfl) (fun w G hr => (by rw [hl690]; exact ⟨[.int .i64 a458, .int .i64 0, .int .i32 0, .int .i64 0], [], rfl, ⟨[.int .i64 a458], [.int .i64 0, .int .i32 0, .int .i64 0], rfl, rfl, ⟨[.int .i64 0], [.int .i32 0, .int .i64 0], rfl, rfl, ⟨[.int .i32 0], [.int .i64 0], rfl, rfl, ⟨[.int .i64 0], [], rfl, rfl, rfl⟩⟩⟩⟩, rfl⟩)) ?_
              intro g755 w hS
              have hC : Core B [Ass.own 3 (Kd.int .i64) A450 C451 l449] [] _ := ⟨_, _, hS.re [3] [] rfl sub_self⟩
              refine ⟨hC, ?_⟩
              refine ED.at' #[true, true, true, false, true, true, true, true, true, true, true, true, true, true, true, false, false, false] (by kernel_rfl) ?_
              refine ED.two 3 15 3 (by kernel_rfl) (by kernel_rfl) ?_ ?_
              · refine EO.Y (YO.loadBox hS 2 rfl 89 1 1 (.slice (some ad683) l453.length C455) 55 (by kernel_rfl) (by kernel_rfl) (by kernel_rfl) (by kernel_rfl)) ?_
                have hC : Core B [Ass.own 3 (Kd.int .i64) A450 C451 l449] [] _ := ⟨_, _, hS.re [3] [] rfl sub_self⟩
                refine ⟨hC, ?_⟩
                refine ED.at' #[true, true, true, true, true, true, true, true, true, true, true, true, true, true, true, false, false, false] (by kernel_rfl) ?_
                refine ED.one 15 2 #[true, true, true, true, true, true, true, true, true, true, true, true, true, true, true, true, false, false] (by kernel_rfl) (by kernel_rfl) (by kernel_rfl) (EO.append hS 94 94 96 32 1 kS96 A684 C685 (l453.getD a457.toNat []) rfl (some ⟨g755, 0, none⟩) 1 l690 (Rd.own 0 96 rfl) l692 hl692 (fun A756 C757 => Ass.own 96 kS96 (some ⟨g755, 0, none⟩) 1 l690 :: Ass.own 96 kS96 A756 C757 l692 :: Ass.box 105 g448 [.slice A450 l449.length C451, .slice (some ad683) l453.length C455] :: Ass.own 3 (Kd.int .i64) A450 C451 l449 :: Ass.holed 94 96 kS96 (some ad683) C455 l453 a457.toNat (A684, (l453.getD a457.toNat []).length, C685) :: os) 67 (by kernel_rfl) (by kernel_rfl) (by kernel_rfl) (by kernel_rfl) h691 (fun _ _ => rfl) ?_)
                intro A756 C757 w hS
                have hC : Core B [Ass.own 3 (Kd.int .i64) A450 C451 l449] [] _ := ⟨_, _, hS.re [3] [] rfl sub_self⟩
                refine ⟨hC, ?_⟩
                refine ED.Y hN hF hC 16 1 #[true, true, true, true, true, true, true, true, true, true, true, true, true, true, true, true, true, false] (by kernel_rfl) (by kernel_rfl) rfl (fun _ _ _ hS => YO.idx 89 1 ad683 l453.length C455 .i64 a457 68 (by kernel_rfl) (by kernel_rfl) (by kernel_rfl) (by kernel_rfl) h681 h682) ?_
                refine ED.one 17 0 #[true, true, true, true, true, true, true, true, true, true, true, true, true, true, true, true, true, true] (by kernel_rfl) (by kernel_rfl) (by kernel_rfl) (EO.closeEl hS 1 3 ad683 a457 rfl rfl h681 l695 hl695 (Ass.own 96 kS96 (some ⟨g755, 0, none⟩) 1 l690 :: Ass.box 105 g448 [.slice A450 l449.length C451, .slice (some ad683) l453.length C455] :: Ass.own 3 (Kd.int .i64) A450 C451 l449 :: Ass.deep 94 96 kS96 (some ad683) C455 l695 :: os) 94 (by kernel_rfl) (by kernel_rfl) (by kernel_rfl) (by kernel_rfl) rfl ?_)
                intro w hS
                have hS : St B w (Ass.own 96 kS96 (some ⟨g755, 0, none⟩) 1 l690 :: Ass.box 105 g448 [.slice A450 l449.length C451, .slice (some ad683) l695.length C455] :: Ass.own 3 (Kd.int .i64) A450 C451 l449 :: Ass.deep 94 96 kS96 (some ad683) C455 l695 :: os) (rs) := by simpa only [hl695, List.length_set] using hS
                have hC : Core B [Ass.own 3 (Kd.int .i64) A450 C451 l449] [] _ := ⟨_, _, hS.re [2] [] rfl sub_self⟩
                refine ⟨hC, ?_⟩
                refine ED.keep [8, 54, 55, 56, 59, 60, 61, 62, 65, 66, 68] [(8, .int .i32 t686), (54, .pointer (some ⟨g448, 1, none⟩)), (55, .slice (some ad683) l453.length C455), (56, .int .i64 a457), (59, .pointer (some ⟨g448, 1, none⟩)), (60, .slice (some ad683) l453.length C455), (61, .int .i64 a457), (62, .pointer (some ((ad683.add (a457.toNat * 1)).add 0))), (65, .agg #[.int .i64 a458, .int .i64 0, .int .i32 0, .int .i64 0]), (66, .slice (some ⟨g755, 0, none⟩) l690.length 1), (68, .pointer (some ((ad683.add (a457.toNat * 1)).add 0)))] (by kernel_rfl) ?_
                refine ED.as' [(8, .int .i32 t686), (54, .pointer (some ⟨g448, 1, none⟩)), (55, .slice (some ad683) l695.length C455), (56, .int .i64 a457), (59, .pointer (some ⟨g448, 1, none⟩)), (60, .slice (some ad683) l695.length C455), (61, .int .i64 a457), (62, .pointer (some ((ad683.add (a457.toNat * 1)).add 0))), (65, .agg #[.int .i64 a458, .int .i64 0, .int .i32 0, .int .i64 0]), (66, .slice (some ⟨g755, 0, none⟩) l690.length 1), (68, .pointer (some ((ad683.add (a457.toNat * 1)).add 0)))] (by simp only [hl695, List.length_set]) ?_
                refine ED.done (by kernel_rfl) ?_
                refine EQ.to ?_
                refine EQ.keep [8] [(8, .int .i32 t686)] (by kernel_rfl) ?_
                exact fun a ha => ⟨(some ⟨g755, 0, none⟩), 1, ha, (hS.re [3, 3, 3, 3] [] rfl (sub_self))⟩
              · refine EO.append hS 94 94 96 32 1 kS96 A684 C685 (l453.getD a457.toNat []) rfl (some ⟨g755, 0, none⟩) 1 l690 (Rd.own 0 96 rfl) l692 hl692 (fun A758 C759 => Ass.own 96 kS96 (some ⟨g755, 0, none⟩) 1 l690 :: Ass.own 96 kS96 A758 C759 l692 :: Ass.box 105 g448 [.slice A450 l449.length C451, .slice (some ad683) l453.length C455] :: Ass.own 3 (Kd.int .i64) A450 C451 l449 :: Ass.holed 94 96 kS96 (some ad683) C455 l453 a457.toNat (A684, (l453.getD a457.toNat []).length, C685) :: os) 67 (by kernel_rfl) (by kernel_rfl) (by kernel_rfl) (by kernel_rfl) h691 (fun _ _ => rfl) ?_
                intro A758 C759 w hS
                have hC : Core B [Ass.own 3 (Kd.int .i64) A450 C451 l449] [] _ := ⟨_, _, hS.re [3] [] rfl sub_self⟩
                refine ⟨hC, ?_⟩
                refine ED.at' #[true, true, true, false, true, true, true, true, true, true, true, true, true, true, true, true, false, false] (by kernel_rfl) ?_
                refine ED.one 3 2 #[true, true, true, true, true, true, true, true, true, true, true, true, true, true, true, true, false, false] (by kernel_rfl) (by kernel_rfl) (by kernel_rfl) (EO.Y (YO.loadBox hS 2 rfl 89 1 1 (.slice (some ad683) l453.length C455) 55 (by kernel_rfl) (by kernel_rfl) (by kernel_rfl) (by kernel_rfl)) ?_)
                have hC : Core B [Ass.own 3 (Kd.int .i64) A450 C451 l449] [] _ := ⟨_, _, hS.re [3] [] rfl sub_self⟩
                refine ⟨hC, ?_⟩
                refine ED.Y hN hF hC 16 1 #[true, true, true, true, true, true, true, true, true, true, true, true, true, true, true, true, true, false] (by kernel_rfl) (by kernel_rfl) rfl (fun _ _ _ hS => YO.idx 89 1 ad683 l453.length C455 .i64 a457 68 (by kernel_rfl) (by kernel_rfl) (by kernel_rfl) (by kernel_rfl) h681 h682) ?_
                refine ED.one 17 0 #[true, true, true, true, true, true, true, true, true, true, true, true, true, true, true, true, true, true] (by kernel_rfl) (by kernel_rfl) (by kernel_rfl) (EO.closeEl hS 1 3 ad683 a457 rfl rfl h681 l695 hl695 (Ass.own 96 kS96 (some ⟨g755, 0, none⟩) 1 l690 :: Ass.box 105 g448 [.slice A450 l449.length C451, .slice (some ad683) l453.length C455] :: Ass.own 3 (Kd.int .i64) A450 C451 l449 :: Ass.deep 94 96 kS96 (some ad683) C455 l695 :: os) 94 (by kernel_rfl) (by kernel_rfl) (by kernel_rfl) (by kernel_rfl) rfl ?_)
                intro w hS
                have hS : St B w (Ass.own 96 kS96 (some ⟨g755, 0, none⟩) 1 l690 :: Ass.box 105 g448 [.slice A450 l449.length C451, .slice (some ad683) l695.length C455] :: Ass.own 3 (Kd.int .i64) A450 C451 l449 :: Ass.deep 94 96 kS96 (some ad683) C455 l695 :: os) (rs) := by simpa only [hl695, List.length_set] using hS
                have hC : Core B [Ass.own 3 (Kd.int .i64) A450 C451 l449] [] _ := ⟨_, _, hS.re [2] [] rfl sub_self⟩
                refine ⟨hC, ?_⟩
                refine ED.keep [8, 54, 55, 56, 59, 60, 61, 62, 65, 66, 68] [(8, .int .i32 t686), (54, .pointer (some ⟨g448, 1, none⟩)), (55, .slice (some ad683) l453.length C455), (56, .int .i64 a457), (59, .pointer (some ⟨g448, 1, none⟩)), (60, .slice (some ad683) l453.length C455), (61, .int .i64 a457), (62, .pointer (some ((ad683.add (a457.toNat * 1)).add 0))), (65, .agg #[.int .i64 a458, .int .i64 0, .int .i32 0, .int .i64 0]), (66, .slice (some ⟨g755, 0, none⟩) l690.length 1), (68, .pointer (some ((ad683.add (a457.toNat * 1)).add 0)))] (by kernel_rfl) ?_
                refine ED.as' [(8, .int .i32 t686), (54, .pointer (some ⟨g448, 1, none⟩)), (55, .slice (some ad683) l695.length C455), (56, .int .i64 a457), (59, .pointer (some ⟨g448, 1, none⟩)), (60, .slice (some ad683) l695.length C455), (61, .int .i64 a457), (62, .pointer (some ((ad683.add (a457.toNat * 1)).add 0))), (65, .agg #[.int .i64 a458, .int .i64 0, .int .i32 0, .int .i64 0]), (66, .slice (some ⟨g755, 0, none⟩) l690.length 1), (68, .pointer (some ((ad683.add (a457.toNat * 1)).add 0)))] (by simp only [hl695, List.length_set]) ?_
                refine ED.done (by kernel_rfl) ?_
                refine EQ.to ?_
                refine EQ.keep [8] [(8, .int .i32 t686)] (by kernel_rfl) ?_
                exact fun a ha => ⟨(some ⟨g755, 0, none⟩), 1, ha, (hS.re [3, 3, 3, 3] [] rfl (sub_self))⟩
          · refine EO.lit hS kS96 96 94 1 #[(0, .agg #[.int .i64 a458, .int .i64 0, .int .i32 0, .int .i64 0])] [.int .i64 a458, .int .i64 0, .int .i32 0, .int .i64 0] l690 66 (by kernel_rfl) (by kernel_rfl) (by kernel_rfl) (fun _ => (by kernel_rfl)) (by rw [hl690]; rfl) (by kernel_rfl) (fun w G hr => (by rw [hl690]; exact ⟨[.int .i64 a458, .int .i64 0, .int .i32 0, .int .i64 0], [], rfl, ⟨[.int .i64 a458], [.int .i64 0, .int .i32 0, .int .i64 0], rfl, rfl, ⟨[.int .i64 0], [.int .i32 0, .int .i64 0], rfl, rfl, ⟨[.int .i32 0], [.int .i64 0], rfl, rfl, ⟨[.int .i64 0], [], rfl, rfl, rfl⟩⟩⟩⟩, rfl⟩)) ?_
            intro g760 w hS
            have hC : Core B [Ass.own 3 (Kd.int .i64) A450 C451 l449] [] _ := ⟨_, _, hS.re [3] [] rfl sub_self⟩
            refine ⟨hC, ?_⟩
            refine ED.at' #[true, true, true, false, true, true, true, true, true, true, true, false, true, true, true, false, false, false] (by kernel_rfl) ?_
            refine ED.two 3 11 4 (by kernel_rfl) (by kernel_rfl) ?_ ?_
            · refine EO.Y (YO.loadBox hS 2 rfl 89 1 1 (.slice (some ad683) l453.length C455) 55 (by kernel_rfl) (by kernel_rfl) (by kernel_rfl) (by kernel_rfl)) ?_
              have hC : Core B [Ass.own 3 (Kd.int .i64) A450 C451 l449] [] _ := ⟨_, _, hS.re [3] [] rfl sub_self⟩
              refine ⟨hC, ?_⟩
              refine ED.at' #[true, true, true, true, true, true, true, true, true, true, true, false, true, true, true, false, false, false] (by kernel_rfl) ?_
              refine ED.one 11 3 #[true, true, true, true, true, true, true, true, true, true, true, true, true, true, true, false, false, false] (by kernel_rfl) (by kernel_rfl) (by kernel_rfl) (EO.Y (YO.loadHole hS 4 ad683 (j := a457) rfl h681 94 63 (by kernel_rfl) (by kernel_rfl) (by kernel_rfl) (by kernel_rfl)) ?_)
              have hC : Core B [Ass.own 3 (Kd.int .i64) A450 C451 l449] [] _ := ⟨_, _, hS.re [3] [] rfl sub_self⟩
              refine ⟨hC, ?_⟩
              refine ED.one 15 2 #[true, true, true, true, true, true, true, true, true, true, true, true, true, true, true, true, false, false] (by kernel_rfl) (by kernel_rfl) (by kernel_rfl) (EO.append hS 94 94 96 32 1 kS96 A684 C685 (l453.getD a457.toNat []) rfl (some ⟨g760, 0, none⟩) 1 l690 (Rd.own 0 96 rfl) l692 hl692 (fun A761 C762 => Ass.own 96 kS96 (some ⟨g760, 0, none⟩) 1 l690 :: Ass.own 96 kS96 A761 C762 l692 :: Ass.box 105 g448 [.slice A450 l449.length C451, .slice (some ad683) l453.length C455] :: Ass.own 3 (Kd.int .i64) A450 C451 l449 :: Ass.holed 94 96 kS96 (some ad683) C455 l453 a457.toNat (A684, (l453.getD a457.toNat []).length, C685) :: os) 67 (by kernel_rfl) (by kernel_rfl) (by kernel_rfl) (by kernel_rfl) h691 (fun _ _ => rfl) ?_)
              intro A761 C762 w hS
              have hC : Core B [Ass.own 3 (Kd.int .i64) A450 C451 l449] [] _ := ⟨_, _, hS.re [3] [] rfl sub_self⟩
              refine ⟨hC, ?_⟩
              refine ED.Y hN hF hC 16 1 #[true, true, true, true, true, true, true, true, true, true, true, true, true, true, true, true, true, false] (by kernel_rfl) (by kernel_rfl) rfl (fun _ _ _ hS => YO.idx 89 1 ad683 l453.length C455 .i64 a457 68 (by kernel_rfl) (by kernel_rfl) (by kernel_rfl) (by kernel_rfl) h681 h682) ?_
              refine ED.one 17 0 #[true, true, true, true, true, true, true, true, true, true, true, true, true, true, true, true, true, true] (by kernel_rfl) (by kernel_rfl) (by kernel_rfl) (EO.closeEl hS 1 3 ad683 a457 rfl rfl h681 l695 hl695 (Ass.own 96 kS96 (some ⟨g760, 0, none⟩) 1 l690 :: Ass.box 105 g448 [.slice A450 l449.length C451, .slice (some ad683) l453.length C455] :: Ass.own 3 (Kd.int .i64) A450 C451 l449 :: Ass.deep 94 96 kS96 (some ad683) C455 l695 :: os) 94 (by kernel_rfl) (by kernel_rfl) (by kernel_rfl) (by kernel_rfl) rfl ?_)
              intro w hS
              have hS : St B w (Ass.own 96 kS96 (some ⟨g760, 0, none⟩) 1 l690 :: Ass.box 105 g448 [.slice A450 l449.length C451, .slice (some ad683) l695.length C455] :: Ass.own 3 (Kd.int .i64) A450 C451 l449 :: Ass.deep 94 96 kS96 (some ad683) C455 l695 :: os) (rs) := by simpa only [hl695, List.length_set] using hS
              have hC : Core B [Ass.own 3 (Kd.int .i64) A450 C451 l449] [] _ := ⟨_, _, hS.re [2] [] rfl sub_self⟩
              refine ⟨hC, ?_⟩
              refine ED.keep [8, 54, 55, 56, 59, 60, 61, 62, 65, 66, 68] [(8, .int .i32 t686), (54, .pointer (some ⟨g448, 1, none⟩)), (55, .slice (some ad683) l453.length C455), (56, .int .i64 a457), (59, .pointer (some ⟨g448, 1, none⟩)), (60, .slice (some ad683) l453.length C455), (61, .int .i64 a457), (62, .pointer (some ((ad683.add (a457.toNat * 1)).add 0))), (65, .agg #[.int .i64 a458, .int .i64 0, .int .i32 0, .int .i64 0]), (66, .slice (some ⟨g760, 0, none⟩) l690.length 1), (68, .pointer (some ((ad683.add (a457.toNat * 1)).add 0)))] (by kernel_rfl) ?_
              refine ED.as' [(8, .int .i32 t686), (54, .pointer (some ⟨g448, 1, none⟩)), (55, .slice (some ad683) l695.length C455), (56, .int .i64 a457), (59, .pointer (some ⟨g448, 1, none⟩)), (60, .slice (some ad683) l695.length C455), (61, .int .i64 a457), (62, .pointer (some ((ad683.add (a457.toNat * 1)).add 0))), (65, .agg #[.int .i64 a458, .int .i64 0, .int .i32 0, .int .i64 0]), (66, .slice (some ⟨g760, 0, none⟩) l690.length 1), (68, .pointer (some ((ad683.add (a457.toNat * 1)).add 0)))] (by simp only [hl695, List.length_set]) ?_
              refine ED.done (by kernel_rfl) ?_
              refine EQ.to ?_
              refine EQ.keep [8] [(8, .int .i32 t686)] (by kernel_rfl) ?_
              exact fun a ha => ⟨(some ⟨g760, 0, none⟩), 1, ha, (hS.re [3, 3, 3, 3] [] rfl (sub_self))⟩
            · refine EO.Y (YO.loadHole hS 4 ad683 (j := a457) rfl h681 94 63 (by kernel_rfl) (by kernel_rfl) (by kernel_rfl) (by kernel_rfl)) ?_
              have hC : Core B [Ass.own 3 (Kd.int .i64) A450 C451 l449] [] _ := ⟨_, _, hS.re [3] [] rfl sub_self⟩
              refine ⟨hC, ?_⟩
              refine ED.at' #[true, true, true, false, true, true, true, true, true, true, true, true, true, true, true, false, false, false] (by kernel_rfl) ?_
              refine ED.two 3 15 3 (by kernel_rfl) (by kernel_rfl) ?_ ?_
              · refine EO.Y (YO.loadBox hS 2 rfl 89 1 1 (.slice (some ad683) l453.length C455) 55 (by kernel_rfl) (by kernel_rfl) (by kernel_rfl) (by kernel_rfl)) ?_
                have hC : Core B [Ass.own 3 (Kd.int .i64) A450 C451 l449] [] _ := ⟨_, _, hS.re [3] [] rfl sub_self⟩
                refine ⟨hC, ?_⟩
                refine ED.at' #[true, true, true, true, true, true, true, true, true, true, true, true, true, true, true, false, false, false] (by kernel_rfl) ?_
                refine ED.one 15 2 #[true, true, true, true, true, true, true, true, true, true, true, true, true, true, true, true, false, false] (by kernel_rfl) (by kernel_rfl) (by kernel_rfl) (EO.append hS 94 94 96 32 1 kS96 A684 C685 (l453.getD a457.toNat []) rfl (some ⟨g760, 0, none⟩) 1 l690 (Rd.own 0 96 rfl) l692 hl692 (fun A763 C764 => Ass.own 96 kS96 (some ⟨g760, 0, none⟩) 1 l690 :: Ass.own 96 kS96 A763 C764 l692 :: Ass.box 105 g448 [.slice A450 l449.length C451, .slice (some ad683) l453.length C455] :: Ass.own 3 (Kd.int .i64) A450 C451 l449 :: Ass.holed 94 96 kS96 (some ad683) C455 l453 a457.toNat (A684, (l453.getD a457.toNat []).length, C685) :: os) 67 (by kernel_rfl) (by kernel_rfl) (by kernel_rfl) (by kernel_rfl) h691 (fun _ _ => rfl) ?_)
                intro A763 C764 w hS
                have hC : Core B [Ass.own 3 (Kd.int .i64) A450 C451 l449] [] _ := ⟨_, _, hS.re [3] [] rfl sub_self⟩
                refine ⟨hC, ?_⟩
                refine ED.Y hN hF hC 16 1 #[true, true, true, true, true, true, true, true, true, true, true, true, true, true, true, true, true, false] (by kernel_rfl) (by kernel_rfl) rfl (fun _ _ _ hS => YO.idx 89 1 ad683 l453.length C455 .i64 a457 68 (by kernel_rfl) (by kernel_rfl) (by kernel_rfl) (by kernel_rfl) h681 h682) ?_
                refine ED.one 17 0 #[true, true, true, true, true, true, true, true, true, true, true, true, true, true, true, true, true, true] (by kernel_rfl) (by kernel_rfl) (by kernel_rfl) (EO.closeEl hS 1 3 ad683 a457 rfl rfl h681 l695 hl695 (Ass.own 96 kS96 (some ⟨g760, 0, none⟩) 1 l690 :: Ass.box 105 g448 [.slice A450 l449.length C451, .slice (some ad683) l453.length C455] :: Ass.own 3 (Kd.int .i64) A450 C451 l449 :: Ass.deep 94 96 kS96 (some ad683) C455 l695 :: os) 94 (by kernel_rfl) (by kernel_rfl) (by kernel_rfl) (by kernel_rfl) rfl ?_)
                intro w hS
                have hS : St B w (Ass.own 96 kS96 (some ⟨g760, 0, none⟩) 1 l690 :: Ass.box 105 g448 [.slice A450 l449.length C451, .slice (some ad683) l695.length C455] :: Ass.own 3 (Kd.int .i64) A450 C451 l449 :: Ass.deep 94 96 kS96 (some ad683) C455 l695 :: os) (rs) := by simpa only [hl695, List.length_set] using hS
                have hC : Core B [Ass.own 3 (Kd.int .i64) A450 C451 l449] [] _ := ⟨_, _, hS.re [2] [] rfl sub_self⟩
                refine ⟨hC, ?_⟩
                refine ED.keep [8, 54, 55, 56, 59, 60, 61, 62, 65, 66, 68] [(8, .int .i32 t686), (54, .pointer (some ⟨g448, 1, none⟩)), (55, .slice (some ad683) l453.length C455), (56, .int .i64 a457), (59, .pointer (some ⟨g448, 1, none⟩)), (60, .slice (some ad683) l453.length C455), (61, .int .i64 a457), (62, .pointer (some ((ad683.add (a457.toNat * 1)).add 0))), (65, .agg #[.int .i64 a458, .int .i64 0, .int .i32 0, .int .i64 0]), (66, .slice (some ⟨g760, 0, none⟩) l690.length 1), (68, .pointer (some ((ad683.add (a457.toNat * 1)).add 0)))] (by kernel_rfl) ?_
                refine ED.as' [(8, .int .i32 t686), (54, .pointer (some ⟨g448, 1, none⟩)), (55, .slice (some ad683) l695.length C455), (56, .int .i64 a457), (59, .pointer (some ⟨g448, 1, none⟩)), (60, .slice (some ad683) l695.length C455), (61, .int .i64 a457), (62, .pointer (some ((ad683.add (a457.toNat * 1)).add 0))), (65, .agg #[.int .i64 a458, .int .i64 0, .int .i32 0, .int .i64 0]), (66, .slice (some ⟨g760, 0, none⟩) l690.length 1), (68, .pointer (some ((ad683.add (a457.toNat * 1)).add 0)))] (by simp only [hl695, List.length_set]) ?_
                refine ED.done (by kernel_rfl) ?_
                refine EQ.to ?_
                refine EQ.keep [8] [(8, .int .i32 t686)] (by kernel_rfl) ?_
                exact fun a ha => ⟨(some ⟨g760, 0, none⟩), 1, ha, (hS.re [3, 3, 3, 3] [] rfl (sub_self))⟩
              · refine EO.append hS 94 94 96 32 1 kS96 A684 C685 (l453.getD a457.toNat []) rfl (some ⟨g760, 0, none⟩) 1 l690 (Rd.own 0 96 rfl) l692 hl692 (fun A765 C766 => Ass.own 96 kS96 (some ⟨g760, 0, none⟩) 1 l690 :: Ass.own 96 kS96 A765 C766 l692 :: Ass.box 105 g448 [.slice A450 l449.length C451, .slice (some ad683) l453.length C455] :: Ass.own 3 (Kd.int .i64) A450 C451 l449 :: Ass.holed 94 96 kS96 (some ad683) C455 l453 a457.toNat (A684, (l453.getD a457.toNat []).length, C685) :: os) 67 (by kernel_rfl) (by kernel_rfl) (by kernel_rfl) (by kernel_rfl) h691 (fun _ _ => rfl) ?_
                intro A765 C766 w hS
                have hC : Core B [Ass.own 3 (Kd.int .i64) A450 C451 l449] [] _ := ⟨_, _, hS.re [3] [] rfl sub_self⟩
                refine ⟨hC, ?_⟩
                refine ED.at' #[true, true, true, false, true, true, true, true, true, true, true, true, true, true, true, true, false, false] (by kernel_rfl) ?_
                refine ED.one 3 2 #[true, true, true, true, true, true, true, true, true, true, true, true, true, true, true, true, false, false] (by kernel_rfl) (by kernel_rfl) (by kernel_rfl) (EO.Y (YO.loadBox hS 2 rfl 89 1 1 (.slice (some ad683) l453.length C455) 55 (by kernel_rfl) (by kernel_rfl) (by kernel_rfl) (by kernel_rfl)) ?_)
                have hC : Core B [Ass.own 3 (Kd.int .i64) A450 C451 l449] [] _ := ⟨_, _, hS.re [3] [] rfl sub_self⟩
                refine ⟨hC, ?_⟩
                refine ED.Y hN hF hC 16 1 #[true, true, true, true, true, true, true, true, true, true, true, true, true, true, true, true, true, false] (by kernel_rfl) (by kernel_rfl) rfl (fun _ _ _ hS => YO.idx 89 1 ad683 l453.length C455 .i64 a457 68 (by kernel_rfl) (by kernel_rfl) (by kernel_rfl) (by kernel_rfl) h681 h682) ?_
                refine ED.one 17 0 #[true, true, true, true, true, true, true, true, true, true, true, true, true, true, true, true, true, true] (by kernel_rfl) (by kernel_rfl) (by kernel_rfl) (EO.closeEl hS 1 3 ad683 a457 rfl rfl h681 l695 hl695 (Ass.own 96 kS96 (some ⟨g760, 0, none⟩) 1 l690 :: Ass.box 105 g448 [.slice A450 l449.length C451, .slice (some ad683) l453.length C455] :: Ass.own 3 (Kd.int .i64) A450 C451 l449 :: Ass.deep 94 96 kS96 (some ad683) C455 l695 :: os) 94 (by kernel_rfl) (by kernel_rfl) (by kernel_rfl) (by kernel_rfl) rfl ?_)
                intro w hS
                have hS : St B w (Ass.own 96 kS96 (some ⟨g760, 0, none⟩) 1 l690 :: Ass.box 105 g448 [.slice A450 l449.length C451, .slice (some ad683) l695.length C455] :: Ass.own 3 (Kd.int .i64) A450 C451 l449 :: Ass.deep 94 96 kS96 (some ad683) C455 l695 :: os) (rs) := by simpa only [hl695, List.length_set] using hS
                have hC : Core B [Ass.own 3 (Kd.int .i64) A450 C451 l449] [] _ := ⟨_, _, hS.re [2] [] rfl sub_self⟩
                refine ⟨hC, ?_⟩
                refine ED.keep [8, 54, 55, 56, 59, 60, 61, 62, 65, 66, 68] [(8, .int .i32 t686), (54, .pointer (some ⟨g448, 1, none⟩)), (55, .slice (some ad683) l453.length C455), (56, .int .i64 a457), (59, .pointer (some ⟨g448, 1, none⟩)), (60, .slice (some ad683) l453.length C455), (61, .int .i64 a457), (62, .pointer (some ((ad683.add (a457.toNat * 1)).add 0))), (65, .agg #[.int .i64 a458, .int .i64 0, .int .i32 0, .int .i64 0]), (66, .slice (some ⟨g760, 0, none⟩) l690.length 1), (68, .pointer (some ((ad683.add (a457.toNat * 1)).add 0)))] (by kernel_rfl) ?_
                refine ED.as' [(8, .int .i32 t686), (54, .pointer (some ⟨g448, 1, none⟩)), (55, .slice (some ad683) l695.length C455), (56, .int .i64 a457), (59, .pointer (some ⟨g448, 1, none⟩)), (60, .slice (some ad683) l695.length C455), (61, .int .i64 a457), (62, .pointer (some ((ad683.add (a457.toNat * 1)).add 0))), (65, .agg #[.int .i64 a458, .int .i64 0, .int .i32 0, .int .i64 0]), (66, .slice (some ⟨g760, 0, none⟩) l690.length 1), (68, .pointer (some ((ad683.add (a457.toNat * 1)).add 0)))] (by simp only [hl695, List.length_set]) ?_
                refine ED.done (by kernel_rfl) ?_
                refine EQ.to ?_
                refine EQ.keep [8] [(8, .int .i32 t686)] (by kernel_rfl) ?_
                exact fun a ha => ⟨(some ⟨g760, 0, none⟩), 1, ha, (hS.re [3, 3, 3, 3] [] rfl (sub_self))⟩
        · refine EO.lit hS kS96 96 94 1 #[(0, .agg #[.int .i64 a458, .int .i64 0, .int .i32 0, .int .i64 0])] [.int .i64 a458, .int .i64 0, .int .i32 0, .int .i64 0] l690 66 (by kernel_rfl) (by kernel_rfl) (by kernel_rfl) (fun _ => (by kernel_rfl)) (by rw [hl690]; rfl) (by kernel_rfl) (fun w G hr => (by rw [hl690]; exact ⟨[.int .i64 a458, .int .i64 0, .int .i32 0, .int .i64 0], [], rfl, ⟨[.int .i64 a458], [.int .i64 0, .int .i32 0, .int .i64 0], rfl, rfl, ⟨[.int .i64 0], [.int .i32 0, .int .i64 0], rfl, rfl, ⟨[.int .i32 0], [.int .i64 0], rfl, rfl, ⟨[.int .i64 0], [], rfl, rfl, rfl⟩⟩⟩⟩, rfl⟩)) ?_
          intro g767 w hS
          have hC : Core B [Ass.own 3 (Kd.int .i64) A450 C451 l449] [] _ := ⟨_, _, hS.re [3] [] rfl sub_self⟩
          refine ⟨hC, ?_⟩
          refine ED.at' #[true, true, true, false, true, true, true, true, false, true, false, false, true, true, true, false, false, false] (by kernel_rfl) ?_
          refine ED.two 3 8 6 (by kernel_rfl) (by kernel_rfl) ?_ ?_
          · refine EO.Y (YO.loadBox hS 2 rfl 89 1 1 (.slice (some ad683) l453.length C455) 55 (by kernel_rfl) (by kernel_rfl) (by kernel_rfl) (by kernel_rfl)) ?_
            have hC : Core B [Ass.own 3 (Kd.int .i64) A450 C451 l449] [] _ := ⟨_, _, hS.re [3] [] rfl sub_self⟩
            refine ⟨hC, ?_⟩
            refine ED.at' #[true, true, true, true, true, true, true, true, false, true, false, false, true, true, true, false, false, false] (by kernel_rfl) ?_
            refine ED.one 8 5 #[true, true, true, true, true, true, true, true, true, true, false, false, true, true, true, false, false, false] (by kernel_rfl) (by kernel_rfl) (by kernel_rfl) (EO.Y (YO.loadBox hS 2 rfl 89 1 1 (.slice (some ad683) l453.length C455) 60 (by kernel_rfl) (by kernel_rfl) (by kernel_rfl) (by kernel_rfl)) ?_)
            have hC : Core B [Ass.own 3 (Kd.int .i64) A450 C451 l449] [] _ := ⟨_, _, hS.re [3] [] rfl sub_self⟩
            refine ⟨hC, ?_⟩
            refine ED.Y hN hF hC 10 4 #[true, true, true, true, true, true, true, true, true, true, true, false, true, true, true, false, false, false] (by kernel_rfl) (by kernel_rfl) rfl (fun _ _ _ hS => YO.idx 89 1 ad683 l453.length C455 .i64 a457 62 (by kernel_rfl) (by kernel_rfl) (by kernel_rfl) (by kernel_rfl) h681 h682) ?_
            refine ED.one 11 3 #[true, true, true, true, true, true, true, true, true, true, true, true, true, true, true, false, false, false] (by kernel_rfl) (by kernel_rfl) (by kernel_rfl) (EO.Y (YO.loadHole hS 4 ad683 (j := a457) rfl h681 94 63 (by kernel_rfl) (by kernel_rfl) (by kernel_rfl) (by kernel_rfl)) ?_)
            have hC : Core B [Ass.own 3 (Kd.int .i64) A450 C451 l449] [] _ := ⟨_, _, hS.re [3] [] rfl sub_self⟩
            refine ⟨hC, ?_⟩
            refine ED.one 15 2 #[true, true, true, true, true, true, true, true, true, true, true, true, true, true, true, true, false, false] (by kernel_rfl) (by kernel_rfl) (by kernel_rfl) (EO.append hS 94 94 96 32 1 kS96 A684 C685 (l453.getD a457.toNat []) rfl (some ⟨g767, 0, none⟩) 1 l690 (Rd.own 0 96 rfl) l692 hl692 (fun A768 C769 => Ass.own 96 kS96 (some ⟨g767, 0, none⟩) 1 l690 :: Ass.own 96 kS96 A768 C769 l692 :: Ass.box 105 g448 [.slice A450 l449.length C451, .slice (some ad683) l453.length C455] :: Ass.own 3 (Kd.int .i64) A450 C451 l449 :: Ass.holed 94 96 kS96 (some ad683) C455 l453 a457.toNat (A684, (l453.getD a457.toNat []).length, C685) :: os) 67 (by kernel_rfl) (by kernel_rfl) (by kernel_rfl) (by kernel_rfl) h691 (fun _ _ => rfl) ?_)
            intro A768 C769 w hS
            have hC : Core B [Ass.own 3 (Kd.int .i64) A450 C451 l449] [] _ := ⟨_, _, hS.re [3] [] rfl sub_self⟩
            refine ⟨hC, ?_⟩
            refine ED.Y hN hF hC 16 1 #[true, true, true, true, true, true, true, true, true, true, true, true, true, true, true, true, true, false] (by kernel_rfl) (by kernel_rfl) rfl (fun _ _ _ hS => YO.idx 89 1 ad683 l453.length C455 .i64 a457 68 (by kernel_rfl) (by kernel_rfl) (by kernel_rfl) (by kernel_rfl) h681 h682) ?_
            refine ED.one 17 0 #[true, true, true, true, true, true, true, true, true, true, true, true, true, true, true, true, true, true] (by kernel_rfl) (by kernel_rfl) (by kernel_rfl) (EO.closeEl hS 1 3 ad683 a457 rfl rfl h681 l695 hl695 (Ass.own 96 kS96 (some ⟨g767, 0, none⟩) 1 l690 :: Ass.box 105 g448 [.slice A450 l449.length C451, .slice (some ad683) l453.length C455] :: Ass.own 3 (Kd.int .i64) A450 C451 l449 :: Ass.deep 94 96 kS96 (some ad683) C455 l695 :: os) 94 (by kernel_rfl) (by kernel_rfl) (by kernel_rfl) (by kernel_rfl) rfl ?_)
            intro w hS
            have hS : St B w (Ass.own 96 kS96 (some ⟨g767, 0, none⟩) 1 l690 :: Ass.box 105 g448 [.slice A450 l449.length C451, .slice (some ad683) l695.length C455] :: Ass.own 3 (Kd.int .i64) A450 C451 l449 :: Ass.deep 94 96 kS96 (some ad683) C455 l695 :: os) (rs) := by simpa only [hl695, List.length_set] using hS
            have hC : Core B [Ass.own 3 (Kd.int .i64) A450 C451 l449] [] _ := ⟨_, _, hS.re [2] [] rfl sub_self⟩
            refine ⟨hC, ?_⟩
            refine ED.keep [8, 54, 55, 56, 59, 60, 61, 62, 65, 66, 68] [(8, .int .i32 t686), (54, .pointer (some ⟨g448, 1, none⟩)), (55, .slice (some ad683) l453.length C455), (56, .int .i64 a457), (59, .pointer (some ⟨g448, 1, none⟩)), (60, .slice (some ad683) l453.length C455), (61, .int .i64 a457), (62, .pointer (some ((ad683.add (a457.toNat * 1)).add 0))), (65, .agg #[.int .i64 a458, .int .i64 0, .int .i32 0, .int .i64 0]), (66, .slice (some ⟨g767, 0, none⟩) l690.length 1), (68, .pointer (some ((ad683.add (a457.toNat * 1)).add 0)))] (by kernel_rfl) ?_
            refine ED.as' [(8, .int .i32 t686), (54, .pointer (some ⟨g448, 1, none⟩)), (55, .slice (some ad683) l695.length C455), (56, .int .i64 a457), (59, .pointer (some ⟨g448, 1, none⟩)), (60, .slice (some ad683) l695.length C455), (61, .int .i64 a457), (62, .pointer (some ((ad683.add (a457.toNat * 1)).add 0))), (65, .agg #[.int .i64 a458, .int .i64 0, .int .i32 0, .int .i64 0]), (66, .slice (some ⟨g767, 0, none⟩) l690.length 1), (68, .pointer (some ((ad683.add (a457.toNat * 1)).add 0)))] (by simp only [hl695, List.length_set]) ?_
            refine ED.done (by kernel_rfl) ?_
            refine EQ.to ?_
            refine EQ.keep [8] [(8, .int .i32 t686)] (by kernel_rfl) ?_
            exact fun a ha => ⟨(some ⟨g767, 0, none⟩), 1, ha, (hS.re [3, 3, 3, 3] [] rfl (sub_self))⟩
          · refine EO.Y (YO.loadBox hS 2 rfl 89 1 1 (.slice (some ad683) l453.length C455) 60 (by kernel_rfl) (by kernel_rfl) (by kernel_rfl) (by kernel_rfl)) ?_
            have hC : Core B [Ass.own 3 (Kd.int .i64) A450 C451 l449] [] _ := ⟨_, _, hS.re [3] [] rfl sub_self⟩
            refine ⟨hC, ?_⟩
            refine ED.at' #[true, true, true, false, true, true, true, true, true, true, false, false, true, true, true, false, false, false] (by kernel_rfl) ?_
            refine ED.Y hN hF hC 10 5 #[true, true, true, false, true, true, true, true, true, true, true, false, true, true, true, false, false, false] (by kernel_rfl) (by kernel_rfl) rfl (fun _ _ _ hS => YO.idx 89 1 ad683 l453.length C455 .i64 a457 62 (by kernel_rfl) (by kernel_rfl) (by kernel_rfl) (by kernel_rfl) h681 h682) ?_
            refine ED.two 3 11 4 (by kernel_rfl) (by kernel_rfl) ?_ ?_
            · refine EO.Y (YO.loadBox hS 2 rfl 89 1 1 (.slice (some ad683) l453.length C455) 55 (by kernel_rfl) (by kernel_rfl) (by kernel_rfl) (by kernel_rfl)) ?_
              have hC : Core B [Ass.own 3 (Kd.int .i64) A450 C451 l449] [] _ := ⟨_, _, hS.re [3] [] rfl sub_self⟩
              refine ⟨hC, ?_⟩
              refine ED.at' #[true, true, true, true, true, true, true, true, true, true, true, false, true, true, true, false, false, false] (by kernel_rfl) ?_
              refine ED.one 11 3 #[true, true, true, true, true, true, true, true, true, true, true, true, true, true, true, false, false, false] (by kernel_rfl) (by kernel_rfl) (by kernel_rfl) (EO.Y (YO.loadHole hS 4 ad683 (j := a457) rfl h681 94 63 (by kernel_rfl) (by kernel_rfl) (by kernel_rfl) (by kernel_rfl)) ?_)
              have hC : Core B [Ass.own 3 (Kd.int .i64) A450 C451 l449] [] _ := ⟨_, _, hS.re [3] [] rfl sub_self⟩
              refine ⟨hC, ?_⟩
              refine ED.one 15 2 #[true, true, true, true, true, true, true, true, true, true, true, true, true, true, true, true, false, false] (by kernel_rfl) (by kernel_rfl) (by kernel_rfl) (EO.append hS 94 94 96 32 1 kS96 A684 C685 (l453.getD a457.toNat []) rfl (some ⟨g767, 0, none⟩) 1 l690 (Rd.own 0 96 rfl) l692 hl692 (fun A770 C771 => Ass.own 96 kS96 (some ⟨g767, 0, none⟩) 1 l690 :: Ass.own 96 kS96 A770 C771 l692 :: Ass.box 105 g448 [.slice A450 l449.length C451, .slice (some ad683) l453.length C455] :: Ass.own 3 (Kd.int .i64) A450 C451 l449 :: Ass.holed 94 96 kS96 (some ad683) C455 l453 a457.toNat (A684, (l453.getD a457.toNat []).length, C685) :: os) 67 (by kernel_rfl) (by kernel_rfl) (by kernel_rfl) (by kernel_rfl) h691 (fun _ _ => rfl) ?_)
              intro A770 C771 w hS
              have hC : Core B [Ass.own 3 (Kd.int .i64) A450 C451 l449] [] _ := ⟨_, _, hS.re [3] [] rfl sub_self⟩
              refine ⟨hC, ?_⟩
              refine ED.Y hN hF hC 16 1 #[true, true, true, true, true, true, true, true, true, true, true, true, true, true, true, true, true, false] (by kernel_rfl) (by kernel_rfl) rfl (fun _ _ _ hS => YO.idx 89 1 ad683 l453.length C455 .i64 a457 68 (by kernel_rfl) (by kernel_rfl) (by kernel_rfl) (by kernel_rfl) h681 h682) ?_
              refine ED.one 17 0 #[true, true, true, true, true, true, true, true, true, true, true, true, true, true, true, true, true, true] (by kernel_rfl) (by kernel_rfl) (by kernel_rfl) (EO.closeEl hS 1 3 ad683 a457 rfl rfl h681 l695 hl695 (Ass.own 96 kS96 (some ⟨g767, 0, none⟩) 1 l690 :: Ass.box 105 g448 [.slice A450 l449.length C451, .slice (some ad683) l453.length C455] :: Ass.own 3 (Kd.int .i64) A450 C451 l449 :: Ass.deep 94 96 kS96 (some ad683) C455 l695 :: os) 94 (by kernel_rfl) (by kernel_rfl) (by kernel_rfl) (by kernel_rfl) rfl ?_)
              intro w hS
              have hS : St B w (Ass.own 96 kS96 (some ⟨g767, 0, none⟩) 1 l690 :: Ass.box 105 g448 [.slice A450 l449.length C451, .slice (some ad683) l695.length C455] :: Ass.own 3 (Kd.int .i64) A450 C451 l449 :: Ass.deep 94 96 kS96 (some ad683) C455 l695 :: os) (rs) := by simpa only [hl695, List.length_set] using hS
              have hC : Core B [Ass.own 3 (Kd.int .i64) A450 C451 l449] [] _ := ⟨_, _, hS.re [2] [] rfl sub_self⟩
              refine ⟨hC, ?_⟩
              refine ED.keep [8, 54, 55, 56, 59, 60, 61, 62, 65, 66, 68] [(8, .int .i32 t686), (54, .pointer (some ⟨g448, 1, none⟩)), (55, .slice (some ad683) l453.length C455), (56, .int .i64 a457), (59, .pointer (some ⟨g448, 1, none⟩)), (60, .slice (some ad683) l453.length C455), (61, .int .i64 a457), (62, .pointer (some ((ad683.add (a457.toNat * 1)).add 0))), (65, .agg #[.int .i64 a458, .int .i64 0, .int .i32 0, .int .i64 0]), (66, .slice (some ⟨g767, 0, none⟩) l690.length 1), (68, .pointer (some ((ad683.add (a457.toNat * 1)).add 0)))] (by kernel_rfl) ?_
              refine ED.as' [(8, .int .i32 t686), (54, .pointer (some ⟨g448, 1, none⟩)), (55, .slice (some ad683) l695.length C455), (56, .int .i64 a457), (59, .pointer (some ⟨g448, 1, none⟩)), (60, .slice (some ad683) l695.length C455), (61, .int .i64 a457), (62, .pointer (some ((ad683.add (a457.toNat * 1)).add 0))), (65, .agg #[.int .i64 a458, .int .i64 0, .int .i32 0, .int .i64 0]), (66, .slice (some ⟨g767, 0, none⟩) l690.length 1), (68, .pointer (some ((ad683.add (a457.toNat * 1)).add 0)))] (by simp only [hl695, List.length_set]) ?_
              refine ED.done (by kernel_rfl) ?_
              refine EQ.to ?_
              refine EQ.keep [8] [(8, .int .i32 t686)] (by kernel_rfl) ?_
              exact fun a ha => ⟨(some ⟨g767, 0, none⟩), 1, ha, (hS.re [3, 3, 3, 3] [] rfl (sub_self))⟩
            · refine EO.Y (YO.loadHole hS 4 ad683 (j := a457) rfl h681 94 63 (by kernel_rfl) (by kernel_rfl) (by kernel_rfl) (by kernel_rfl)) ?_
              have hC : Core B [Ass.own 3 (Kd.int .i64) A450 C451 l449] [] _ := ⟨_, _, hS.re [3] [] rfl sub_self⟩
              refine ⟨hC, ?_⟩
              refine ED.at' #[true, true, true, false, true, true, true, true, true, true, true, true, true, true, true, false, false, false] (by kernel_rfl) ?_
              refine ED.two 3 15 3 (by kernel_rfl) (by kernel_rfl) ?_ ?_
              · refine EO.Y (YO.loadBox hS 2 rfl 89 1 1 (.slice (some ad683) l453.length C455) 55 (by kernel_rfl) (by kernel_rfl) (by kernel_rfl) (by kernel_rfl)) ?_
                have hC : Core B [Ass.own 3 (Kd.int .i64) A450 C451 l449] [] _ := ⟨_, _, hS.re [3] [] rfl sub_self⟩
                refine ⟨hC, ?_⟩
                refine ED.at' #[true, true, true, true, true, true, true, true, true, true, true, true, true, true, true, false, false, false] (by kernel_rfl) ?_
                refine ED.one 15 2 #[true, true, true, true, true, true, true, true, true, true, true, true, true, true, true, true, false, false] (by kernel_rfl) (by kernel_rfl) (by kernel_rfl) (EO.append hS 94 94 96 32 1 kS96 A684 C685 (l453.getD a457.toNat []) rfl (some ⟨g767, 0, none⟩) 1 l690 (Rd.own 0 96 rfl) l692 hl692 (fun A772 C773 => Ass.own 96 kS96 (some ⟨g767, 0, none⟩) 1 l690 :: Ass.own 96 kS96 A772 C773 l692 :: Ass.box 105 g448 [.slice A450 l449.length C451, .slice (some ad683) l453.length C455] :: Ass.own 3 (Kd.int .i64) A450 C451 l449 :: Ass.holed 94 96 kS96 (some ad683) C455 l453 a457.toNat (A684, (l453.getD a457.toNat []).length, C685) :: os) 67 (by kernel_rfl) (by kernel_rfl) (by kernel_rfl) (by kernel_rfl) h691 (fun _ _ => rfl) ?_)
                intro A772 C773 w hS
                have hC : Core B [Ass.own 3 (Kd.int .i64) A450 C451 l449] [] _ := ⟨_, _, hS.re [3] [] rfl sub_self⟩
                refine ⟨hC, ?_⟩
                refine ED.Y hN hF hC 16 1 #[true, true, true, true, true, true, true, true, true, true, true, true, true, true, true, true, true, false] (by kernel_rfl) (by kernel_rfl) rfl (fun _ _ _ hS => YO.idx 89 1 ad683 l453.length C455 .i64 a457 68 (by kernel_rfl) (by kernel_rfl) (by kernel_rfl) (by kernel_rfl) h681 h682) ?_
                refine ED.one 17 0 #[true, true, true, true, true, true, true, true, true, true, true, true, true, true, true, true, true, true] (by kernel_rfl) (by kernel_rfl) (by kernel_rfl) (EO.closeEl hS 1 3 ad683 a457 rfl rfl h681 l695 hl695 (Ass.own 96 kS96 (some ⟨g767, 0, none⟩) 1 l690 :: Ass.box 105 g448 [.slice A450 l449.length C451, .slice (some ad683) l453.length C455] :: Ass.own 3 (Kd.int .i64) A450 C451 l449 :: Ass.deep 94 96 kS96 (some ad683) C455 l695 :: os) 94 (by kernel_rfl) (by kernel_rfl) (by kernel_rfl) (by kernel_rfl) rfl ?_)
                intro w hS
                have hS : St B w (Ass.own 96 kS96 (some ⟨g767, 0, none⟩) 1 l690 :: Ass.box 105 g448 [.slice A450 l449.length C451, .slice (some ad683) l695.length C455] :: Ass.own 3 (Kd.int .i64) A450 C451 l449 :: Ass.deep 94 96 kS96 (some ad683) C455 l695 :: os) (rs) := by simpa only [hl695, List.length_set] using hS
                have hC : Core B [Ass.own 3 (Kd.int .i64) A450 C451 l449] [] _ := ⟨_, _, hS.re [2] [] rfl sub_self⟩
                refine ⟨hC, ?_⟩
                refine ED.keep [8, 54, 55, 56, 59, 60, 61, 62, 65, 66, 68] [(8, .int .i32 t686), (54, .pointer (some ⟨g448, 1, none⟩)), (55, .slice (some ad683) l453.length C455), (56, .int .i64 a457), (59, .pointer (some ⟨g448, 1, none⟩)), (60, .slice (some ad683) l453.length C455), (61, .int .i64 a457), (62, .pointer (some ((ad683.add (a457.toNat * 1)).add 0))), (65, .agg #[.int .i64 a458, .int .i64 0, .int .i32 0, .int .i64 0]), (66, .slice (some ⟨g767, 0, none⟩) l690.length 1), (68, .pointer (some ((ad683.add (a457.toNat * 1)).add 0)))] (by kernel_rfl) ?_
                refine ED.as' [(8, .int .i32 t686), (54, .pointer (some ⟨g448, 1, none⟩)), (55, .slice (some ad683) l695.length C455), (56, .int .i64 a457), (59, .pointer (some ⟨g448, 1, none⟩)), (60, .slice (some ad683) l695.length C455), (61, .int .i64 a457), (62, .pointer (some ((ad683.add (a457.toNat * 1)).add 0))), (65, .agg #[.int .i64 a458, .int .i64 0, .int .i32 0, .int .i64 0]), (66, .slice (some ⟨g767, 0, none⟩) l690.length 1), (68, .pointer (some ((ad683.add (a457.toNat * 1)).add 0)))] (by simp only [hl695, List.length_set]) ?_
                refine ED.done (by kernel_rfl) ?_
                refine EQ.to ?_
                refine EQ.keep [8] [(8, .int .i32 t686)] (by kernel_rfl) ?_
                exact fun a ha => ⟨(some ⟨g767, 0, none⟩), 1, ha, (hS.re [3, 3, 3, 3] [] rfl (sub_self))⟩
              · refine EO.append hS 94 94 96 32 1 kS96 A684 C685 (l453.getD a457.toNat []) rfl (some ⟨g767, 0, none⟩) 1 l690 (Rd.own 0 96 rfl) l692 hl692 (fun A774 C775 => Ass.own 96 kS96 (some ⟨g767, 0, none⟩) 1 l690 :: Ass.own 96 kS96 A774 C775 l692 :: Ass.box 105 g448 [.slice A450 l449.length C451, .slice (some ad683) l453.length C455] :: Ass.own 3 (Kd.int .i64) A450 C451 l449 :: Ass.holed 94 96 kS96 (some ad683) C455 l453 a457.toNat (A684, (l453.getD a457.toNat []).length, C685) :: os) 67 (by kernel_rfl) (by kernel_rfl) (by kernel_rfl) (by kernel_rfl) h691 (fun _ _ => rfl) ?_
                intro A774 C775 w hS
                have hC : Core B [Ass.own 3 (Kd.int .i64) A450 C451 l449] [] _ := ⟨_, _, hS.re [3] [] rfl sub_self⟩
                refine ⟨hC, ?_⟩
                refine ED.at' #[true, true, true, false, true, true, true, true, true, true, true, true, true, true, true, true, false, false] (by kernel_rfl) ?_
                refine ED.one 3 2 #[true, true, true, true, true, true, true, true, true, true, true, true, true, true, true, true, false, false] (by kernel_rfl) (by kernel_rfl) (by kernel_rfl) (EO.Y (YO.loadBox hS 2 rfl 89 1 1 (.slice (some ad683) l453.length C455) 55 (by kernel_rfl) (by kernel_rfl) (by kernel_rfl) (by kernel_rfl)) ?_)
                have hC : Core B [Ass.own 3 (Kd.int .i64) A450 C451 l449] [] _ := ⟨_, _, hS.re [3] [] rfl sub_self⟩
                refine ⟨hC, ?_⟩
                refine ED.Y hN hF hC 16 1 #[true, true, true, true, true, true, true, true, true, true, true, true, true, true, true, true, true, false] (by kernel_rfl) (by kernel_rfl) rfl (fun _ _ _ hS => YO.idx 89 1 ad683 l453.length C455 .i64 a457 68 (by kernel_rfl) (by kernel_rfl) (by kernel_rfl) (by kernel_rfl) h681 h682) ?_
                refine ED.one 17 0 #[true, true, true, true, true, true, true, true, true, true, true, true, true, true, true, true, true, true] (by kernel_rfl) (by kernel_rfl) (by kernel_rfl) (EO.closeEl hS 1 3 ad683 a457 rfl rfl h681 l695 hl695 (Ass.own 96 kS96 (some ⟨g767, 0, none⟩) 1 l690 :: Ass.box 105 g448 [.slice A450 l449.length C451, .slice (some ad683) l453.length C455] :: Ass.own 3 (Kd.int .i64) A450 C451 l449 :: Ass.deep 94 96 kS96 (some ad683) C455 l695 :: os) 94 (by kernel_rfl) (by kernel_rfl) (by kernel_rfl) (by kernel_rfl) rfl ?_)
                intro w hS
                have hS : St B w (Ass.own 96 kS96 (some ⟨g767, 0, none⟩) 1 l690 :: Ass.box 105 g448 [.slice A450 l449.length C451, .slice (some ad683) l695.length C455] :: Ass.own 3 (Kd.int .i64) A450 C451 l449 :: Ass.deep 94 96 kS96 (some ad683) C455 l695 :: os) (rs) := by simpa only [hl695, List.length_set] using hS
                have hC : Core B [Ass.own 3 (Kd.int .i64) A450 C451 l449] [] _ := ⟨_, _, hS.re [2] [] rfl sub_self⟩
                refine ⟨hC, ?_⟩
                refine ED.keep [8, 54, 55, 56, 59, 60, 61, 62, 65, 66, 68] [(8, .int .i32 t686), (54, .pointer (some ⟨g448, 1, none⟩)), (55, .slice (some ad683) l453.length C455), (56, .int .i64 a457), (59, .pointer (some ⟨g448, 1, none⟩)), (60, .slice (some ad683) l453.length C455), (61, .int .i64 a457), (62, .pointer (some ((ad683.add (a457.toNat * 1)).add 0))), (65, .agg #[.int .i64 a458, .int .i64 0, .int .i32 0, .int .i64 0]), (66, .slice (some ⟨g767, 0, none⟩) l690.length 1), (68, .pointer (some ((ad683.add (a457.toNat * 1)).add 0)))] (by kernel_rfl) ?_
                refine ED.as' [(8, .int .i32 t686), (54, .pointer (some ⟨g448, 1, none⟩)), (55, .slice (some ad683) l695.length C455), (56, .int .i64 a457), (59, .pointer (some ⟨g448, 1, none⟩)), (60, .slice (some ad683) l695.length C455), (61, .int .i64 a457), (62, .pointer (some ((ad683.add (a457.toNat * 1)).add 0))), (65, .agg #[.int .i64 a458, .int .i64 0, .int .i32 0, .int .i64 0]), (66, .slice (some ⟨g767, 0, none⟩) l690.length 1), (68, .pointer (some ((ad683.add (a457.toNat * 1)).add 0)))] (by simp only [hl695, List.length_set]) ?_
                refine ED.done (by kernel_rfl) ?_
                refine EQ.to ?_
                refine EQ.keep [8] [(8, .int .i32 t686)] (by kernel_rfl) ?_
                exact fun a ha => ⟨(some ⟨g767, 0, none⟩), 1, ha, (hS.re [3, 3, 3, 3] [] rfl (sub_self))⟩
      · obtain ⟨A735, C736, ha, hS⟩ := hI
        refine EQ.at ?_ a ha
        clear ha a
        refine EQ.code ?_
        refine EW.seq (x := Cd19.r.r.r.r.l) (y := Cd19.r.r.r.r.r) (by kernel_rfl) ?_
        refine EW.region (id := 5) (ops := Cd19.r.r.r.r.l.ops) (by kernel_rfl) ?_
        refine EL.quick 3 [6, 7] [(6, .int .i32 t686), (7, .bool (true))] (by kernel_rfl) ?_
        refine EL.done (by kernel_rfl) ?_
        refine EQ.code ?_
        refine EW.ret (by kernel_rfl) ?_
        simp only [Option.some.injEq, Prod.mk.injEq] at H
        obtain ⟨rfl, rfl, rfl⟩ := H
        exact EQ.leave (.tuple #[.int .i32 t686, .bool (true)]) (by kernel_rfl) ⟨_, rfl, (some ad683), C455, rfl, (hS.re [3, 3, 3] [3] rfl (sub_self))⟩

/-! ### confidant/confidantref9.Label: function 69 -/
def confidantref9_Label.f (K : Nat) (a1353 : Int) : Option Int := if a1353 < 0 then (some (-1)) else (some (IntKind.i64.wrap (IntKind.i32.wrap (Int.tdiv a1353 65536))))
set_option maxRecDepth 100000 in
theorem confidantref9_Label.calls {K : Nat} {a1353 : Int} {x1356 : Int} {B w : World} {os : List Ass} {rs : List Ro} (H : confidantref9_Label.f K a1353 = some x1356) (hS : St B w (os) (rs)) :
    Calls Try.prog 69 [.int .i32 a1353].toArray w (fun en w' => ∃ v, en = .returned v ∧ v = .int .i64 x1356 ∧ St B w' (os) (rs)) := by
  unfold confidantref9_Label.f at H
  refine calls_of_EW (args := [.int .i32 a1353]) (c := Cd69) 8 Try.func69 (by kernel_rfl) (by kernel_rfl) (by kernel_rfl) ?_
  refine EW.seq (x := Cd69.l) (y := Cd69.r) (by kernel_rfl) ?_
  refine EW.region (id := 0) (ops := Cd69.l.ops) (by kernel_rfl) ?_
  refine EL.quick 1 [0] [(0, .int .i32 a1353)] (by kernel_rfl) ?_
  refine EL.done (by kernel_rfl) ?_
  refine EQ.code ?_
  refine EW.seq (x := Cd69.r.l) (y := Cd69.r.r) (by kernel_rfl) ?_
  refine EW.seq (x := Cd69.r.l.l) (y := Cd69.r.l.r) (by kernel_rfl) ?_
  refine EW.region (id := 1) (ops := Cd69.r.l.l.ops) (by kernel_rfl) ?_
  refine EL.quick 2 [0, 4] [(0, .int .i32 a1353), (4, .bool (decide (a1353 < 0)))] (by kernel_rfl) ?_
  refine EL.done (by kernel_rfl) ?_
  refine EQ.code ?_
  refine EW.condP (o := (.tmp 4)) (x := Cd69.r.l.r.l) (y := Cd69.r.l.r.r) (a1353 < 0) (by kernel_rfl) (by kernel_rfl) (fun h1358 => ?_) (fun h1358 => ?_)
  · rw [if_pos h1358] at H
    refine EW.seq (x := Cd69.r.l.r.l.l) (y := Cd69.r.l.r.l.r) (by kernel_rfl) ?_
    refine EW.region (id := 2) (ops := Cd69.r.l.r.l.l.ops) (by kernel_rfl) ?_
    refine EL.quick 1 [2] [(2, .int .i64 (-1))] (by kernel_rfl) ?_
    refine EL.done (by kernel_rfl) ?_
    refine EQ.code ?_
    refine EW.ret (by kernel_rfl) ?_
    refine EQ.ret ?_
    obtain rfl := Option.some.inj H
    exact EQ.leave (.int .i64 (-1)) (by kernel_rfl) ⟨_, rfl, rfl, (hS.re [] [] rfl (sub_self))⟩
  · rw [if_neg h1358] at H
    refine EW.skip (by kernel_rfl) ?_
    refine EQ.code ?_
    refine EW.seq (x := Cd69.r.r.l) (y := Cd69.r.r.r) (by kernel_rfl) ?_
    refine EW.region (id := 3) (ops := Cd69.r.r.l.ops) (by kernel_rfl) ?_
    refine EL.quick 4 [2] [(2, .int .i64 (IntKind.i64.wrap (IntKind.i32.wrap (Int.tdiv a1353 65536))))] (by kernel_rfl) ?_
    refine EL.done (by kernel_rfl) ?_
    refine EQ.code ?_
    refine EW.ret (by kernel_rfl) ?_
    obtain rfl := Option.some.inj H
    exact EQ.leave (.int .i64 (IntKind.i64.wrap (IntKind.i32.wrap (Int.tdiv a1353 65536)))) (by kernel_rfl) ⟨_, rfl, rfl, (hS.re [] [] rfl (sub_self))⟩

/-! ### confidant/confidantref9.Valid: function 67 -/
def confidantref9_Valid.f (K : Nat) (a1350 : Int) (a1351 : Int) : Option Bool := if a1350 ≥ 0 then (b1 (confidantref9_Label.f K a1350) fun (t1363 : Int) => (some (decide (t1363 < (mn a1351 16))))) else (some false)
set_option maxRecDepth 100000 in
theorem confidantref9_Valid.calls {K : Nat} {a1350 : Int} {a1351 : Int} {x1361 : Bool} {B w : World} {os : List Ass} {rs : List Ro} (H : confidantref9_Valid.f K a1350 a1351 = some x1361) (hS : St B w (os) (rs)) :
    Calls Try.prog 67 [.int .i32 a1350, .int .i64 a1351].toArray w (fun en w' => ∃ v, en = .returned v ∧ v = .bool (x1361) ∧ St B w' (os) (rs)) := by
  unfold confidantref9_Valid.f at H
  refine calls_of_EW (args := [.int .i32 a1350, .int .i64 a1351]) (c := Cd67) 14 Try.func67 (by kernel_rfl) (by kernel_rfl) (by kernel_rfl) ?_
  refine EW.seq (x := Cd67.l) (y := Cd67.r) (by kernel_rfl) ?_
  refine EW.region (id := 0) (ops := Cd67.l.ops) (by kernel_rfl) ?_
  refine EL.quick 1 [0, 1] [(0, .int .i32 a1350), (1, .int .i64 a1351)] (by kernel_rfl) ?_
  refine EL.done (by kernel_rfl) ?_
  refine EQ.code ?_
  refine EW.seq (x := Cd67.r.l) (y := Cd67.r.r) (by kernel_rfl) ?_
  refine EW.region (id := 1) (ops := Cd67.r.l.ops) (by kernel_rfl) ?_
  refine EL.quick 3 [0, 1, 7] [(0, .int .i32 a1350), (1, .int .i64 a1351), (7, .bool (decide (a1350 ≥ 0)))] (by kernel_rfl) ?_
  by_cases h1362 : a1350 ≥ 0
  · rw [if_pos h1362] at H
    refine EL.keep [0, 1, 7] [(0, .int .i32 a1350), (1, .int .i64 a1351), (7, .bool (decide (a1350 ≥ 0)))] (by kernel_rfl) ?_
    refine EL.as' [(0, .int .i32 a1350), (1, .int .i64 a1351), (7, .bool (true))] (by simp only [dec_t h1362, Bool.not_true, Bool.not_false]) ?_
    refine EL.quick 1 [1, 7, 8] [(1, .int .i64 a1351), (7, .bool (true)), (8, .int .i32 a1350)] (by kernel_rfl) ?_
    obtain ⟨t1363, hc1364, H⟩ := b1_out H
    refine EL.of (EO.callD 69 [.int .i32 a1350] _ 9 (by kernel_rfl) (by kernel_rfl) (by kernel_rfl) (confidantref9_Label.calls hc1364 hS) ?_)
    rintro v w ⟨rfl, hS⟩
    refine EL.quick 5 [4] [(4, .bool (decide (t1363 < (mn a1351 16))))] (by kernel_rfl) ?_
    refine EL.done (by kernel_rfl) ?_
    refine EQ.code ?_
    refine EW.ret (by kernel_rfl) ?_
    obtain rfl := Option.some.inj H
    exact EQ.leave (.bool (decide (t1363 < (mn a1351 16)))) (by kernel_rfl) ⟨_, rfl, rfl, (hS.re [] [] rfl (sub_self))⟩
  · rw [if_neg h1362] at H
    refine EL.keep [0, 1, 7] [(0, .int .i32 a1350), (1, .int .i64 a1351), (7, .bool (decide (a1350 ≥ 0)))] (by kernel_rfl) ?_
    refine EL.as' [(0, .int .i32 a1350), (1, .int .i64 a1351), (7, .bool (false))] (by simp only [dec_f h1362, Bool.not_true, Bool.not_false]) ?_
    refine EL.quick 7 [4] [(4, .bool (false))] (by kernel_rfl) ?_
    refine EL.done (by kernel_rfl) ?_
    refine EQ.code ?_
    refine EW.ret (by kernel_rfl) ?_
    obtain rfl := Option.some.inj H
    exact EQ.leave (.bool (false)) (by kernel_rfl) ⟨_, rfl, rfl, (hS.re [] [] rfl (sub_self))⟩

/-! ### confidant/confidantref9.Number: function 68 -/
def confidantref9_Number.f (K : Nat) (a1368 : Int) : Option Int := if a1368 < 0 then (some (-1)) else (some (IntKind.i64.wrap (Int.tmod a1368 65536)))
set_option maxRecDepth 100000 in
theorem confidantref9_Number.calls {K : Nat} {a1368 : Int} {x1371 : Int} {B w : World} {os : List Ass} {rs : List Ro} (H : confidantref9_Number.f K a1368 = some x1371) (hS : St B w (os) (rs)) :
    Calls Try.prog 68 [.int .i32 a1368].toArray w (fun en w' => ∃ v, en = .returned v ∧ v = .int .i64 x1371 ∧ St B w' (os) (rs)) := by
  unfold confidantref9_Number.f at H
  refine calls_of_EW (args := [.int .i32 a1368]) (c := Cd68) 8 Try.func68 (by kernel_rfl) (by kernel_rfl) (by kernel_rfl) ?_
  refine EW.seq (x := Cd68.l) (y := Cd68.r) (by kernel_rfl) ?_
  refine EW.region (id := 0) (ops := Cd68.l.ops) (by kernel_rfl) ?_
  refine EL.quick 1 [0] [(0, .int .i32 a1368)] (by kernel_rfl) ?_
  refine EL.done (by kernel_rfl) ?_
  refine EQ.code ?_
  refine EW.seq (x := Cd68.r.l) (y := Cd68.r.r) (by kernel_rfl) ?_
  refine EW.seq (x := Cd68.r.l.l) (y := Cd68.r.l.r) (by kernel_rfl) ?_
  refine EW.region (id := 1) (ops := Cd68.r.l.l.ops) (by kernel_rfl) ?_
  refine EL.quick 2 [0, 4] [(0, .int .i32 a1368), (4, .bool (decide (a1368 < 0)))] (by kernel_rfl) ?_
  refine EL.done (by kernel_rfl) ?_
  refine EQ.code ?_
  refine EW.condP (o := (.tmp 4)) (x := Cd68.r.l.r.l) (y := Cd68.r.l.r.r) (a1368 < 0) (by kernel_rfl) (by kernel_rfl) (fun h1373 => ?_) (fun h1373 => ?_)
  · rw [if_pos h1373] at H
    refine EW.seq (x := Cd68.r.l.r.l.l) (y := Cd68.r.l.r.l.r) (by kernel_rfl) ?_
    refine EW.region (id := 2) (ops := Cd68.r.l.r.l.l.ops) (by kernel_rfl) ?_
    refine EL.quick 1 [2] [(2, .int .i64 (-1))] (by kernel_rfl) ?_
    refine EL.done (by kernel_rfl) ?_
    refine EQ.code ?_
    refine EW.ret (by kernel_rfl) ?_
    refine EQ.ret ?_
    obtain rfl := Option.some.inj H
    exact EQ.leave (.int .i64 (-1)) (by kernel_rfl) ⟨_, rfl, rfl, (hS.re [] [] rfl (sub_self))⟩
  · rw [if_neg h1373] at H
    refine EW.skip (by kernel_rfl) ?_
    refine EQ.code ?_
    refine EW.seq (x := Cd68.r.r.l) (y := Cd68.r.r.r) (by kernel_rfl) ?_
    refine EW.region (id := 3) (ops := Cd68.r.r.l.ops) (by kernel_rfl) ?_
    refine EL.quick 4 [2] [(2, .int .i64 (IntKind.i64.wrap (Int.tmod a1368 65536)))] (by kernel_rfl) ?_
    refine EL.done (by kernel_rfl) ?_
    refine EQ.code ?_
    refine EW.ret (by kernel_rfl) ?_
    obtain rfl := Option.some.inj H
    exact EQ.leave (.int .i64 (IntKind.i64.wrap (Int.tmod a1368 65536))) (by kernel_rfl) ⟨_, rfl, rfl, (hS.re [] [] rfl (sub_self))⟩

/-! ### (*confidant/confidantref12.Futures).Get: function 48 -/
def confidantref12_Futures_Get.f (K : Nat) (l1339 : List Int) (l1343 : List (List S96)) (a1347 : Int) : Option (S96 × Bool) := lt (fun (x1532 : Bool) => (if x1532 = true then (some ((⟨0, 0, 0, 0⟩ : S96), false)) else (b1 (confidantref9_Label.f K a1347) fun (t1551 : Int) => (if 0 ≤ t1551 then (if t1551 < (l1343.length : Int) then (b1 (confidantref9_Number.f K a1347) fun (t1558 : Int) => (if 0 ≤ t1558 then (if t1558 < ((l1343.getD t1551.toNat []).length : Int) then (some ((⟨((l1343.getD t1551.toNat []).getD t1558.toNat zS96).f0, ((l1343.getD t1551.toNat []).getD t1558.toNat zS96).f1, ((l1343.getD t1551.toNat []).getD t1558.toNat zS96).f2, ((l1343.getD t1551.toNat []).getD t1558.toNat zS96).f3⟩ : S96), true)) else none) else none)) else none) else none)))) fun j1533 => (b1 (confidantref9_Valid.f K a1347 (l1343.length : Int)) fun (t1534 : Bool) => (if t1534 = true then (b1 (confidantref9_Number.f K a1347) fun (t1537 : Int) => (b1 (confidantref9_Label.f K a1347) fun (t1539 : Int) => (if 0 ≤ t1539 then (if t1539 < (l1343.length : Int) then (j1533 (decide (t1537 ≥ ((l1343.getD t1539.toNat []).length : Int)))) else none) else none))) else (j1533 true)))
set_option maxRecDepth 100000 in
theorem confidantref12_Futures_Get.calls {K : Nat} {l1339 : List Int} {l1343 : List (List S96)} {a1347 : Int} {g1338 : Nat} {A1340 : Option Addr} {C1341 : Nat} {A1344 : Option Addr} {C1345 : Nat} {x1463 : S96} {x1464 : Bool} {B w : World} {os : List Ass} {rs : List Ro} (H : confidantref12_Futures_Get.f K l1339 l1343 a1347 = some (x1463, x1464)) (hS : St B w (Ass.box 105 g1338 [.slice A1340 l1339.length C1341, .slice A1344 l1343.length C1345] :: Ass.own 3 (Kd.int .i64) A1340 C1341 l1339 :: Ass.deep 94 96 kS96 A1344 C1345 l1343 :: os) (rs)) :
    Calls Try.prog 48 [.pointer (some ⟨g1338, 0, none⟩), .int .i32 a1347].toArray w (fun en w' => ∃ v, en = .returned v ∧ v = .tuple #[.agg #[.int .i64 x1463.f0, .int .i64 x1463.f1, .int .i32 x1463.f2, .int .i64 x1463.f3], .bool (x1464)] ∧ St B w' (Ass.box 105 g1338 [.slice A1340 l1339.length C1341, .slice A1344 l1343.length C1345] :: Ass.own 3 (Kd.int .i64) A1340 C1341 l1339 :: Ass.deep 94 96 kS96 A1344 C1345 l1343 :: os) (rs)) := by
  unfold confidantref12_Futures_Get.f at H
  refine calls_of_EW (args := [.pointer (some ⟨g1338, 0, none⟩), .int .i32 a1347]) (c := Cd48) 41 Try.func48 (by kernel_rfl) (by kernel_rfl) (by kernel_rfl) ?_
  refine EW.seq (x := Cd48.l) (y := Cd48.r) (by kernel_rfl) ?_
  refine EW.region (id := 0) (ops := Cd48.l.ops) (by kernel_rfl) ?_
  refine EL.of (EO.alloc hS 96 (.agg #[.int .i64 0, .int .i64 0, .int .i32 0, .int .i64 0]) [.int .i64 0, .int .i64 0, .int .i32 0, .int .i64 0] 4 (by kernel_rfl) (by kernel_rfl) (by kernel_rfl) (by kernel_rfl) (by first | rfl | kernel_rfl) ?_)
  intro g1466 w hS
  refine EL.quick 1 [0, 1, 4] [(0, .pointer (some ⟨g1338, 0, none⟩)), (1, .int .i32 a1347), (4, .pointer (some ⟨g1466, 0, none⟩))] (by kernel_rfl) ?_
  refine EL.done (by kernel_rfl) ?_
  refine EQ.code ?_
  refine EW.seq (x := Cd48.r.l) (y := Cd48.r.r) (by kernel_rfl) ?_
  obtain ⟨j1533, hj1533, H⟩ := lt_out H
  refine EW.cut (x := Cd48.r.l.l) (y := Cd48.r.l.r) (fun a w => ∃ x1532 : Bool, Sat 41 [(0, .pointer (some ⟨g1338, 0, none⟩)), (1, .int .i32 a1347), (4, .pointer (some ⟨g1466, 0, none⟩)), (27, .bool (x1532))] a ∧ St B w (Ass.box 96 g1466 [.int .i64 0, .int .i64 0, .int .i32 0, .int .i64 0] :: Ass.box 105 g1338 [.slice A1340 l1339.length C1341, .slice A1344 l1343.length C1345] :: Ass.own 3 (Kd.int .i64) A1340 C1341 l1339 :: Ass.deep 94 96 kS96 A1344 C1345 l1343 :: os) (rs) ∧ j1533 x1532 = some (x1463, x1464)) (by kernel_rfl) ?_ (fun a w hI => ?_)
  · obtain ⟨t1534, hc1535, H⟩ := b1_out H
    by_cases h1536 : t1534 = true
    · rw [if_pos h1536] at H
      obtain ⟨t1537, hc1538, H⟩ := b1_out H
      obtain ⟨t1539, hc1540, H⟩ := b1_out H
      obtain ⟨h1541, H⟩ := ite_in H
      obtain ⟨h1542, H⟩ := ite_in H
      obtain ⟨ad1543, rfl⟩ := St.deep_some hS 3 rfl h1541 h1542
      have hS := hS.drew
      refine EW.draw (B := B) (id := 1) (ops := Cd48.r.l.l.ops) [Ass.box 96 g1466 [.int .i64 0, .int .i64 0, .int .i32 0, .int .i64 0], Ass.box 105 g1338 [.slice A1340 l1339.length C1341, .slice (some ad1543) l1343.length C1345], Ass.own 3 (Kd.int .i64) A1340 C1341 l1339] [] (by kernel_rfl) (by kernel_rfl) ?_
      have hN : Region.noSelect Cd48.r.l.l.ops = true := (by kernel_rfl)
      have hF : freeAll Cd48.r.l.l.ops = true := (by kernel_rfl)
      have hC : Core B [Ass.box 96 g1466 [.int .i64 0, .int .i64 0, .int .i32 0, .int .i64 0], Ass.box 105 g1338 [.slice A1340 l1339.length C1341, .slice (some ad1543) l1343.length C1345], Ass.own 3 (Kd.int .i64) A1340 C1341 l1339] [] _ := ⟨_, _, hS⟩
      refine ED.quick hN hF hC [0, 1, 2, 3] [0, 1, 4, 6, 9] 18 [(0, .pointer (some ⟨g1338, 0, none⟩)), (1, .int .i32 a1347), (4, .pointer (some ⟨g1466, 0, none⟩)), (6, .int .i32 a1347), (9, .pointer (some ⟨g1338, 1, none⟩))] #[true, true, true, true, false, false, false, false, false, false, false, false, false, false, false, false, false, false, false, false, false, false] (by kernel_rfl) (by kernel_rfl) ?_
      refine ED.Y hN hF hC 4 17 #[true, true, true, true, true, false, false, false, false, false, false, false, false, false, false, false, false, false, false, false, false, false] (by kernel_rfl) (by kernel_rfl) rfl (fun _ _ _ hS => YO.loadBox hS 1 rfl 89 1 1 (.slice (some ad1543) l1343.length C1345) 10 (by kernel_rfl) (by kernel_rfl) (by kernel_rfl) (by kernel_rfl)) ?_
      refine ED.quick hN hF hC [5] [0, 1, 4, 6, 11] 16 [(0, .pointer (some ⟨g1338, 0, none⟩)), (1, .int .i32 a1347), (4, .pointer (some ⟨g1466, 0, none⟩)), (6, .int .i32 a1347), (11, .int .i64 (l1343.length : Int))] #[true, true, true, true, true, true, false, false, false, false, false, false, false, false, false, false, false, false, false, false, false, false] (by kernel_rfl) (by kernel_rfl) ?_
      refine ED.one 6 15 #[true, true, true, true, true, true, true, false, false, false, false, false, false, false, false, false, false, false, false, false, false, false] (by kernel_rfl) (by kernel_rfl) (by kernel_rfl) (EO.callD 67 [.int .i32 a1347, .int .i64 (l1343.length : Int)] _ 12 (by kernel_rfl) (by kernel_rfl) (by kernel_rfl) (confidantref9_Valid.calls hc1535 hS) ?_)
      rintro v w ⟨rfl, hS⟩
      have hC : Core B [Ass.box 96 g1466 [.int .i64 0, .int .i64 0, .int .i32 0, .int .i64 0], Ass.box 105 g1338 [.slice A1340 l1339.length C1341, .slice (some ad1543) l1343.length C1345], Ass.own 3 (Kd.int .i64) A1340 C1341 l1339] [] _ := ⟨_, _, hS⟩
      refine ⟨hC, ?_⟩
      refine ED.quick hN hF hC [7, 8] [0, 1, 4, 14] 13 [(0, .pointer (some ⟨g1338, 0, none⟩)), (1, .int .i32 a1347), (4, .pointer (some ⟨g1466, 0, none⟩)), (14, .bool (!(t1534)))] #[true, true, true, true, true, true, true, true, true, false, false, false, false, false, false, false, false, false, false, false, false, false] (by kernel_rfl) (by kernel_rfl) ?_
      refine ED.keep [0, 1, 4, 14] [(0, .pointer (some ⟨g1338, 0, none⟩)), (1, .int .i32 a1347), (4, .pointer (some ⟨g1466, 0, none⟩)), (14, .bool (!(t1534)))] (by kernel_rfl) ?_
      refine ED.as' [(0, .pointer (some ⟨g1338, 0, none⟩)), (1, .int .i32 a1347), (4, .pointer (some ⟨g1466, 0, none⟩)), (14, .bool (false))] (by simp only [h1536, Bool.not_true, Bool.not_false]) ?_
      refine ED.quick hN hF hC [9, 11, 12, 13, 15] [0, 1, 4, 14, 15, 19, 21] 8 [(0, .pointer (some ⟨g1338, 0, none⟩)), (1, .int .i32 a1347), (4, .pointer (some ⟨g1466, 0, none⟩)), (14, .bool (false)), (15, .int .i32 a1347), (19, .pointer (some ⟨g1338, 1, none⟩)), (21, .int .i32 a1347)] #[true, true, true, true, true, true, true, true, true, true, false, true, true, true, false, true, false, false, false, false, false, false] (by kernel_rfl) (by kernel_rfl) ?_
      refine ED.Y hN hF hC 14 7 #[true, true, true, true, true, true, true, true, true, true, false, true, true, true, true, true, false, false, false, false, false, false] (by kernel_rfl) (by kernel_rfl) rfl (fun _ _ _ hS => YO.loadBox hS 1 rfl 89 1 1 (.slice (some ad1543) l1343.length C1345) 20 (by kernel_rfl) (by kernel_rfl) (by kernel_rfl) (by kernel_rfl)) ?_
      refine ED.one 10 6 #[true, true, true, true, true, true, true, true, true, true, true, true, true, true, true, true, false, false, false, false, false, false] (by kernel_rfl) (by kernel_rfl) (by kernel_rfl) (EO.callD 68 [.int .i32 a1347] _ 16 (by kernel_rfl) (by kernel_rfl) (by kernel_rfl) (confidantref9_Number.calls hc1538 hS) ?_)
      rintro v w ⟨rfl, hS⟩
      have hC : Core B [Ass.box 96 g1466 [.int .i64 0, .int .i64 0, .int .i32 0, .int .i64 0], Ass.box 105 g1338 [.slice A1340 l1339.length C1341, .slice (some ad1543) l1343.length C1345], Ass.own 3 (Kd.int .i64) A1340 C1341 l1339] [] _ := ⟨_, _, hS⟩
      refine ⟨hC, ?_⟩
      refine ED.one 16 5 #[true, true, true, true, true, true, true, true, true, true, true, true, true, true, true, true, true, false, false, false, false, false] (by kernel_rfl) (by kernel_rfl) (by kernel_rfl) (EO.callD 69 [.int .i32 a1347] _ 22 (by kernel_rfl) (by kernel_rfl) (by kernel_rfl) (confidantref9_Label.calls hc1540 hS) ?_)
      rintro v w ⟨rfl, hS⟩
      have hC : Core B [Ass.box 96 g1466 [.int .i64 0, .int .i64 0, .int .i32 0, .int .i64 0], Ass.box 105 g1338 [.slice A1340 l1339.length C1341, .slice (some ad1543) l1343.length C1345], Ass.own 3 (Kd.int .i64) A1340 C1341 l1339] [] _ := ⟨_, _, hS⟩
      refine ⟨hC, ?_⟩
      refine ED.Y hN hF hC 17 4 #[true, true, true, true, true, true, true, true, true, true, true, true, true, true, true, true, true, true, false, false, false, false] (by kernel_rfl) (by kernel_rfl) rfl (fun _ _ _ hS => YO.idx 89 1 ad1543 l1343.length C1345 .i64 t1539 23 (by kernel_rfl) (by kernel_rfl) (by kernel_rfl) (by kernel_rfl) h1541 h1542) ?_
      refine ED.one 18 3 #[true, true, true, true, true, true, true, true, true, true, true, true, true, true, true, true, true, true, true, false, false, false] (by kernel_rfl) (by kernel_rfl) (by kernel_rfl) (EO.openEl hS 3 ad1543 rfl t1539 h1541 h1542 (fun A1548 C1549 => Ass.box 96 g1466 [.int .i64 0, .int .i64 0, .int .i32 0, .int .i64 0] :: Ass.box 105 g1338 [.slice A1340 l1339.length C1341, .slice (some ad1543) l1343.length C1345] :: Ass.own 3 (Kd.int .i64) A1340 C1341 l1339 :: Ass.holed 94 96 kS96 (some ad1543) C1345 l1343 t1539.toNat (A1548, (l1343.getD t1539.toNat []).length, C1549) :: os) 94 24 (by kernel_rfl) (by kernel_rfl) (by kernel_rfl) (by kernel_rfl) (fun _ _ => rfl) ?_)
      intro A1548 C1549 hS
      have hC : Core B [Ass.box 96 g1466 [.int .i64 0, .int .i64 0, .int .i32 0, .int .i64 0], Ass.box 105 g1338 [.slice A1340 l1339.length C1341, .slice (some ad1543) l1343.length C1345], Ass.own 3 (Kd.int .i64) A1340 C1341 l1339] [] _ := ⟨_, _, hS.re [3, 3, 3] [] rfl sub_self⟩
      refine ⟨hC, ?_⟩
      refine ED.quick hN hF hC [19, 20, 21] [0, 1, 4, 27] 0 [(0, .pointer (some ⟨g1338, 0, none⟩)), (1, .int .i32 a1347), (4, .pointer (some ⟨g1466, 0, none⟩)), (27, .bool (decide (t1537 ≥ ((l1343.getD t1539.toNat []).length : Int))))] #[true, true, true, true, true, true, true, true, true, true, true, true, true, true, true, true, true, true, true, true, true, true] (by kernel_rfl) (by kernel_rfl) ?_
      refine ED.done (by kernel_rfl) ?_
      refine EQ.to ?_
      have hS := St.as (os' := Ass.box 96 g1466 [.int .i64 0, .int .i64 0, .int .i32 0, .int .i64 0] :: Ass.box 105 g1338 [.slice A1340 l1339.length C1341, .slice (some ad1543) l1343.length C1345] :: Ass.own 3 (Kd.int .i64) A1340 C1341 l1339 :: Ass.deep 94 96 kS96 (some ad1543) C1345 l1343 :: os) (St.close hS 0 3 rfl rfl rfl l1343 (set_getD _ _)) rfl
      refine EQ.keep [0, 1, 4, 27] [(0, .pointer (some ⟨g1338, 0, none⟩)), (1, .int .i32 a1347), (4, .pointer (some ⟨g1466, 0, none⟩)), (27, .bool (decide (t1537 ≥ ((l1343.getD t1539.toNat []).length : Int))))] (by kernel_rfl) ?_
      exact fun a ha => ⟨decide (t1537 ≥ ((l1343.getD t1539.toNat []).length : Int)), ha, (hS.re [3, 3, 3, 3] [] rfl (sub_self)), H⟩
    · rw [if_neg h1536] at H
      have hS := hS.drew
      refine EW.draw (B := B) (id := 1) (ops := Cd48.r.l.l.ops) [Ass.box 96 g1466 [.int .i64 0, .int .i64 0, .int .i32 0, .int .i64 0], Ass.box 105 g1338 [.slice A1340 l1339.length C1341, .slice A1344 l1343.length C1345], Ass.own 3 (Kd.int .i64) A1340 C1341 l1339, Ass.deep 94 96 kS96 A1344 C1345 l1343] [] (by kernel_rfl) (by kernel_rfl) ?_
      have hN : Region.noSelect Cd48.r.l.l.ops = true := (by kernel_rfl)
      have hF : freeAll Cd48.r.l.l.ops = true := (by kernel_rfl)
      have hC : Core B [Ass.box 96 g1466 [.int .i64 0, .int .i64 0, .int .i32 0, .int .i64 0], Ass.box 105 g1338 [.slice A1340 l1339.length C1341, .slice A1344 l1343.length C1345], Ass.own 3 (Kd.int .i64) A1340 C1341 l1339, Ass.deep 94 96 kS96 A1344 C1345 l1343] [] _ := ⟨_, _, hS⟩
      refine ED.quick hN hF hC [0, 1, 2, 3] [0, 1, 4, 6, 9] 18 [(0, .pointer (some ⟨g1338, 0, none⟩)), (1, .int .i32 a1347), (4, .pointer (some ⟨g1466, 0, none⟩)), (6, .int .i32 a1347), (9, .pointer (some ⟨g1338, 1, none⟩))] #[true, true, true, true, false, false, false, false, false, false, false, false, false, false, false, false, false, false, false, false, false, false] (by kernel_rfl) (by kernel_rfl) ?_
      refine ED.Y hN hF hC 4 17 #[true, true, true, true, true, false, false, false, false, false, false, false, false, false, false, false, false, false, false, false, false, false] (by kernel_rfl) (by kernel_rfl) rfl (fun _ _ _ hS => YO.loadBox hS 1 rfl 89 1 1 (.slice A1344 l1343.length C1345) 10 (by kernel_rfl) (by kernel_rfl) (by kernel_rfl) (by kernel_rfl)) ?_
      refine ED.quick hN hF hC [5] [0, 1, 4, 6, 11] 16 [(0, .pointer (some ⟨g1338, 0, none⟩)), (1, .int .i32 a1347), (4, .pointer (some ⟨g1466, 0, none⟩)), (6, .int .i32 a1347), (11, .int .i64 (l1343.length : Int))] #[true, true, true, true, true, true, false, false, false, false, false, false, false, false, false, false, false, false, false, false, false, false] (by kernel_rfl) (by kernel_rfl) ?_
      refine ED.one 6 15 #[true, true, true, true, true, true, true, false, false, false, false, false, false, false, false, false, false, false, false, false, false, false] (by kernel_rfl) (by kernel_rfl) (by kernel_rfl) (EO.callD 67 [.int .i32 a1347, .int .i64 (l1343.length : Int)] _ 12 (by kernel_rfl) (by kernel_rfl) (by kernel_rfl) (confidantref9_Valid.calls hc1535 hS) ?_)
      rintro v w ⟨rfl, hS⟩
      have hC : Core B [Ass.box 96 g1466 [.int .i64 0, .int .i64 0, .int .i32 0, .int .i64 0], Ass.box 105 g1338 [.slice A1340 l1339.length C1341, .slice A1344 l1343.length C1345], Ass.own 3 (Kd.int .i64) A1340 C1341 l1339, Ass.deep 94 96 kS96 A1344 C1345 l1343] [] _ := ⟨_, _, hS⟩
      refine ⟨hC, ?_⟩
      refine ED.quick hN hF hC [7, 8] [0, 1, 4, 14] 13 [(0, .pointer (some ⟨g1338, 0, none⟩)), (1, .int .i32 a1347), (4, .pointer (some ⟨g1466, 0, none⟩)), (14, .bool (!(t1534)))] #[true, true, true, true, true, true, true, true, true, false, false, false, false, false, false, false, false, false, false, false, false, false] (by kernel_rfl) (by kernel_rfl) ?_
      refine ED.keep [0, 1, 4, 14] [(0, .pointer (some ⟨g1338, 0, none⟩)), (1, .int .i32 a1347), (4, .pointer (some ⟨g1466, 0, none⟩)), (14, .bool (!(t1534)))] (by kernel_rfl) ?_
      refine ED.as' [(0, .pointer (some ⟨g1338, 0, none⟩)), (1, .int .i32 a1347), (4, .pointer (some ⟨g1466, 0, none⟩)), (14, .bool (true))] (by simp only [(Bool.eq_false_iff.2 h1536), Bool.not_true, Bool.not_false]) ?_
      refine ED.quick hN hF hC [9, 10, 11, 12, 13, 14, 15, 16, 17, 18, 19, 20, 21] [0, 1, 4, 27] 0 [(0, .pointer (some ⟨g1338, 0, none⟩)), (1, .int .i32 a1347), (4, .pointer (some ⟨g1466, 0, none⟩)), (27, .bool (true))] #[true, true, true, true, true, true, true, true, true, true, true, true, true, true, true, true, true, true, true, true, true, true] (by kernel_rfl) (by kernel_rfl) ?_
      refine ED.done (by kernel_rfl) ?_
      refine EQ.to ?_
      refine EQ.keep [0, 1, 4, 27] [(0, .pointer (some ⟨g1338, 0, none⟩)), (1, .int .i32 a1347), (4, .pointer (some ⟨g1466, 0, none⟩)), (27, .bool (true))] (by kernel_rfl) ?_
      exact fun a ha => ⟨true, ha, (hS.re [3, 3, 3, 3] [] rfl (sub_self)), H⟩
  · obtain ⟨x1532, ha, hS, H⟩ := hI
    rw [hj1533] at H
    (try dsimp only at H)
    refine EW.at ?_ a ha
    clear ha a
    refine EW.condP' (o := (.tmp 27)) (x := Cd48.r.l.r.l) (y := Cd48.r.l.r.r) (x1532) (by kernel_rfl) (by kernel_rfl) (fun h1550 => ?_) (fun h1550 => ?_)
    · rw [if_pos h1550] at H
      refine EW.seq (x := Cd48.r.l.r.l.l) (y := Cd48.r.l.r.l.r) (by kernel_rfl) ?_
      refine EW.region (id := 2) (ops := Cd48.r.l.r.l.l.ops) (by kernel_rfl) ?_
      refine EL.quick 1 [4, 28] [(4, .pointer (some ⟨g1466, 0, none⟩)), (28, .agg #[.int .i64 0, .int .i64 0, .int .i32 0, .int .i64 0])] (by kernel_rfl) ?_
      refine EL.of (EO.storeBox (os' := Ass.box 96 g1466 [.int .i64 0, .int .i64 0, .int .i32 0, .int .i64 0] :: Ass.box 105 g1338 [.slice A1340 l1339.length C1341, .slice A1344 l1343.length C1345] :: Ass.own 3 (Kd.int .i64) A1340 C1341 l1339 :: Ass.deep 94 96 kS96 A1344 C1345 l1343 :: os) hS 0 rfl 96 0 (.agg #[.int .i64 0, .int .i64 0, .int .i32 0, .int .i64 0]) [.int .i64 0, .int .i64 0, .int .i32 0, .int .i64 0] (by kernel_rfl) (by kernel_rfl) (by kernel_rfl) (by kernel_rfl) (by kernel_rfl) (by kernel_rfl) rfl rfl ?_)
      intro w hS
      refine EL.quick 1 [4, 5] [(4, .pointer (some ⟨g1466, 0, none⟩)), (5, .bool (false))] (by kernel_rfl) ?_
      refine EL.done (by kernel_rfl) ?_
      refine EQ.code ?_
      refine EW.ret (by kernel_rfl) ?_
      refine EQ.ret ?_
      simp only [Option.some.injEq, Prod.mk.injEq] at H
      obtain ⟨rfl, rfl⟩ := H
      exact EQ.leave2 hS (.cell 4 96) (.tmp 5) (.agg #[.int .i64 0, .int .i64 0, .int .i32 0, .int .i64 0]) (.bool (false)) (by kernel_rfl) ⟨0, 96, g1466, [.int .i64 0, .int .i64 0, .int .i32 0, .int .i64 0], 0, 4, rfl, (by kernel_rfl), (by kernel_rfl)⟩ (oneTmp (by kernel_rfl)) ⟨_, rfl, rfl, (hS.re [3, 3, 3] [3] rfl (sub_self))⟩
    · rw [if_neg h1550] at H
      refine EW.skip (by kernel_rfl) ?_
      refine EQ.code ?_
      refine EW.seq (x := Cd48.r.r.l) (y := Cd48.r.r.r) (by kernel_rfl) ?_
      obtain ⟨t1551, hc1552, H⟩ := b1_out H
      obtain ⟨h1553, H⟩ := ite_in H
      obtain ⟨h1554, H⟩ := ite_in H
      obtain ⟨ad1555, rfl⟩ := St.deep_some hS 3 rfl h1553 h1554
      obtain ⟨t1558, hc1559, H⟩ := b1_out H
      obtain ⟨h1560, H⟩ := ite_in H
      obtain ⟨h1561, H⟩ := ite_in H
      refine EW.meet (id := 3) (ops := Cd48.r.r.l.ops) (fun a w => Sat 41 [(4, .pointer (some ⟨g1466, 0, none⟩)), (5, .bool (true))] a ∧ St B w (Ass.box 96 g1466 [.int .i64 (((l1343.getD t1551.toNat []).getD t1558.toNat zS96).f0), .int .i64 (((l1343.getD t1551.toNat []).getD t1558.toNat zS96).f1), .int .i32 (((l1343.getD t1551.toNat []).getD t1558.toNat zS96).f2), .int .i64 (((l1343.getD t1551.toNat []).getD t1558.toNat zS96).f3)] :: Ass.box 105 g1338 [.slice A1340 l1339.length C1341, .slice (some ad1555) l1343.length C1345] :: Ass.own 3 (Kd.int .i64) A1340 C1341 l1339 :: Ass.deep 94 96 kS96 (some ad1555) C1345 l1343 :: os) (rs)) (by kernel_rfl) ?_ (fun a w hI => ?_)
      · have hS := hS.drew
        refine EW.draw (B := B) (id := 3) (ops := Cd48.r.r.l.ops) [Ass.box 105 g1338 [.slice A1340 l1339.length C1341, .slice (some ad1555) l1343.length C1345], Ass.own 3 (Kd.int .i64) A1340 C1341 l1339] [] (by kernel_rfl) (by kernel_rfl) ?_
        have hN : Region.noSelect Cd48.r.r.l.ops = true := (by kernel_rfl)
        have hF : freeAll Cd48.r.r.l.ops = true := (by kernel_rfl)
        have hC : Core B [Ass.box 105 g1338 [.slice A1340 l1339.length C1341, .slice (some ad1555) l1343.length C1345], Ass.own 3 (Kd.int .i64) A1340 C1341 l1339] [] _ := ⟨_, _, hS.re [2, 2] [] rfl sub_self⟩
        refine ED.quick hN hF hC [0, 1, 2, 4, 8] [4, 31, 33, 37] 9 [(4, .pointer (some ⟨g1466, 0, none⟩)), (31, .pointer (some ⟨g1338, 1, none⟩)), (33, .int .i32 a1347), (37, .int .i32 a1347)] #[true, true, true, false, true, false, false, false, true, false, false, false, false, false] (by kernel_rfl) (by kernel_rfl) ?_
        refine ED.Y hN hF hC 3 8 #[true, true, true, true, true, false, false, false, true, false, false, false, false, false] (by kernel_rfl) (by kernel_rfl) rfl (fun _ _ _ hS => YO.loadBox hS 0 rfl 89 1 1 (.slice (some ad1555) l1343.length C1345) 32 (by kernel_rfl) (by kernel_rfl) (by kernel_rfl) (by kernel_rfl)) ?_
        refine ED.one 5 7 #[true, true, true, true, true, true, false, false, true, false, false, false, false, false] (by kernel_rfl) (by kernel_rfl) (by kernel_rfl) (EO.callD 69 [.int .i32 a1347] _ 34 (by kernel_rfl) (by kernel_rfl) (by kernel_rfl) (confidantref9_Label.calls hc1552 hS) ?_)
        rintro v w ⟨rfl, hS⟩
        have hC : Core B [Ass.box 105 g1338 [.slice A1340 l1339.length C1341, .slice (some ad1555) l1343.length C1345], Ass.own 3 (Kd.int .i64) A1340 C1341 l1339] [] _ := ⟨_, _, hS.re [2, 2] [] rfl sub_self⟩
        refine ⟨hC, ?_⟩
        refine ED.Y hN hF hC 6 6 #[true, true, true, true, true, true, true, false, true, false, false, false, false, false] (by kernel_rfl) (by kernel_rfl) rfl (fun _ _ _ hS => YO.idx 89 1 ad1555 l1343.length C1345 .i64 t1551 35 (by kernel_rfl) (by kernel_rfl) (by kernel_rfl) (by kernel_rfl) h1553 h1554) ?_
        refine ED.two 7 9 5 (by kernel_rfl) (by kernel_rfl) ?_ ?_
        · refine EO.openEl hS 3 ad1555 rfl t1551 h1553 h1554 (fun A1569 C1570 => Ass.box 96 g1466 [.int .i64 0, .int .i64 0, .int .i32 0, .int .i64 0] :: Ass.box 105 g1338 [.slice A1340 l1339.length C1341, .slice (some ad1555) l1343.length C1345] :: Ass.own 3 (Kd.int .i64) A1340 C1341 l1339 :: Ass.holed 94 96 kS96 (some ad1555) C1345 l1343 t1551.toNat (A1569, (l1343.getD t1551.toNat []).length, C1570) :: os) 94 36 (by kernel_rfl) (by kernel_rfl) (by kernel_rfl) (by kernel_rfl) (fun _ _ => rfl) ?_
          intro A1569 C1570 hS
          have hC : Core B [Ass.box 105 g1338 [.slice A1340 l1339.length C1341, .slice (some ad1555) l1343.length C1345], Ass.own 3 (Kd.int .i64) A1340 C1341 l1339] [] _ := ⟨_, _, hS.re [3, 3] [] rfl sub_self⟩
          refine ⟨hC, ?_⟩
          refine ED.at' #[true, true, true, true, true, true, true, true, true, false, false, false, false, false] (by kernel_rfl) ?_
          refine ED.one 9 4 #[true, true, true, true, true, true, true, true, true, true, false, false, false, false] (by kernel_rfl) (by kernel_rfl) (by kernel_rfl) (EO.callD 68 [.int .i32 a1347] _ 38 (by kernel_rfl) (by kernel_rfl) (by kernel_rfl) (confidantref9_Number.calls hc1559 hS) ?_)
          rintro v w ⟨rfl, hS⟩
          have hC : Core B [Ass.box 105 g1338 [.slice A1340 l1339.length C1341, .slice (some ad1555) l1343.length C1345], Ass.own 3 (Kd.int .i64) A1340 C1341 l1339] [] _ := ⟨_, _, hS.re [3, 3] [] rfl sub_self⟩
          refine ⟨hC, ?_⟩
          obtain ⟨ad1571, rfl⟩ := St.rd_some hS (Rd.own 0 96 rfl) h1560 h1561
          refine ED.Y hN hF hC 10 3 #[true, true, true, true, true, true, true, true, true, true, true, false, false, false] (by kernel_rfl) (by kernel_rfl) rfl (fun _ _ _ hS => YO.idx 94 4 ad1571 (l1343.getD t1551.toNat []).length C1570 .i64 t1558 39 (by kernel_rfl) (by kernel_rfl) (by kernel_rfl) (by kernel_rfl) h1560 h1561) ?_
          refine ED.one 11 2 #[true, true, true, true, true, true, true, true, true, true, true, true, false, false] (by kernel_rfl) (by kernel_rfl) (by kernel_rfl) (EO.Y (YO.loadEl hS kS96 ad1571 C1570 (l1343.getD t1551.toNat []) (Rd.own 0 96 rfl) zS96 encS96 encS96_of t1558 h1560 h1561 96 4 0 4 rfl (.agg #[.int .i64 (((l1343.getD t1551.toNat []).getD t1558.toNat zS96).f0), .int .i64 (((l1343.getD t1551.toNat []).getD t1558.toNat zS96).f1), .int .i32 (((l1343.getD t1551.toNat []).getD t1558.toNat zS96).f2), .int .i64 (((l1343.getD t1551.toNat []).getD t1558.toNat zS96).f3)]) 40 (by kernel_rfl) (by kernel_rfl) (by kernel_rfl) (by kernel_rfl)) ?_)
          have hC : Core B [Ass.box 105 g1338 [.slice A1340 l1339.length C1341, .slice (some ad1555) l1343.length C1345], Ass.own 3 (Kd.int .i64) A1340 C1341 l1339] [] _ := ⟨_, _, hS.re [3, 3] [] rfl sub_self⟩
          refine ⟨hC, ?_⟩
          refine ED.one 12 1 #[true, true, true, true, true, true, true, true, true, true, true, true, true, false] (by kernel_rfl) (by kernel_rfl) (by kernel_rfl) (EO.storeBox (os' := Ass.own 96 kS96 (some ad1571) C1570 (l1343.getD t1551.toNat []) :: Ass.box 96 g1466 [.int .i64 (((l1343.getD t1551.toNat []).getD t1558.toNat zS96).f0), .int .i64 (((l1343.getD t1551.toNat []).getD t1558.toNat zS96).f1), .int .i32 (((l1343.getD t1551.toNat []).getD t1558.toNat zS96).f2), .int .i64 (((l1343.getD t1551.toNat []).getD t1558.toNat zS96).f3)] :: Ass.box 105 g1338 [.slice A1340 l1339.length C1341, .slice (some ad1555) l1343.length C1345] :: Ass.own 3 (Kd.int .i64) A1340 C1341 l1339 :: Ass.holed 94 96 kS96 (some ad1555) C1345 l1343 t1551.toNat ((some ad1571), (l1343.getD t1551.toNat []).length, C1570) :: os) hS 1 rfl 96 0 (.agg #[.int .i64 (((l1343.getD t1551.toNat []).getD t1558.toNat zS96).f0), .int .i64 (((l1343.getD t1551.toNat []).getD t1558.toNat zS96).f1), .int .i32 (((l1343.getD t1551.toNat []).getD t1558.toNat zS96).f2), .int .i64 (((l1343.getD t1551.toNat []).getD t1558.toNat zS96).f3)]) [.int .i64 (((l1343.getD t1551.toNat []).getD t1558.toNat zS96).f0), .int .i64 (((l1343.getD t1551.toNat []).getD t1558.toNat zS96).f1), .int .i32 (((l1343.getD t1551.toNat []).getD t1558.toNat zS96).f2), .int .i64 (((l1343.getD t1551.toNat []).getD t1558.toNat zS96).f3)] (by kernel_rfl) (by kernel_rfl) (by kernel_rfl) (by kernel_rfl) (by kernel_rfl) (by kernel_rfl) rfl rfl ?_)
          intro w hS
          have hC : Core B [Ass.box 105 g1338 [.slice A1340 l1339.length C1341, .slice (some ad1555) l1343.length C1345], Ass.own 3 (Kd.int .i64) A1340 C1341 l1339] [] _ := ⟨_, _, hS.re [3, 3] [] rfl sub_self⟩
          refine ⟨hC, ?_⟩
          refine ED.quick hN hF hC [13] [4, 5] 0 [(4, .pointer (some ⟨g1466, 0, none⟩)), (5, .bool (true))] #[true, true, true, true, true, true, true, true, true, true, true, true, true, true] (by kernel_rfl) (by kernel_rfl) ?_
          refine ED.done (by kernel_rfl) ?_
          have hS := St.as (os' := Ass.box 96 g1466 [.int .i64 (((l1343.getD t1551.toNat []).getD t1558.toNat zS96).f0), .int .i64 (((l1343.getD t1551.toNat []).getD t1558.toNat zS96).f1), .int .i32 (((l1343.getD t1551.toNat []).getD t1558.toNat zS96).f2), .int .i64 (((l1343.getD t1551.toNat []).getD t1558.toNat zS96).f3)] :: Ass.box 105 g1338 [.slice A1340 l1339.length C1341, .slice (some ad1555) l1343.length C1345] :: Ass.own 3 (Kd.int .i64) A1340 C1341 l1339 :: Ass.deep 94 96 kS96 (some ad1555) C1345 l1343 :: os) (St.close hS 0 3 rfl rfl rfl l1343 (set_getD _ _)) rfl
          refine EQ.to ?_
          refine EQ.keep [4, 5] [(4, .pointer (some ⟨g1466, 0, none⟩)), (5, .bool (true))] (by kernel_rfl) ?_
          exact fun a ha => ⟨ha, (hS.re [3, 3, 3, 3] [] rfl (sub_self))⟩
        · refine EO.callD 68 [.int .i32 a1347] _ 38 (by kernel_rfl) (by kernel_rfl) (by kernel_rfl) (confidantref9_Number.calls hc1559 hS) ?_
          rintro v w ⟨rfl, hS⟩
          have hC : Core B [Ass.box 105 g1338 [.slice A1340 l1339.length C1341, .slice (some ad1555) l1343.length C1345], Ass.own 3 (Kd.int .i64) A1340 C1341 l1339] [] _ := ⟨_, _, hS.re [2, 2] [] rfl sub_self⟩
          refine ⟨hC, ?_⟩
          refine ED.at' #[true, true, true, true, true, true, true, false, true, true, false, false, false, false] (by kernel_rfl) ?_
          refine ED.one 7 4 #[true, true, true, true, true, true, true, true, true, true, false, false, false, false] (by kernel_rfl) (by kernel_rfl) (by kernel_rfl) (EO.openEl hS 3 ad1555 rfl t1551 h1553 h1554 (fun A1572 C1573 => Ass.box 96 g1466 [.int .i64 0, .int .i64 0, .int .i32 0, .int .i64 0] :: Ass.box 105 g1338 [.slice A1340 l1339.length C1341, .slice (some ad1555) l1343.length C1345] :: Ass.own 3 (Kd.int .i64) A1340 C1341 l1339 :: Ass.holed 94 96 kS96 (some ad1555) C1345 l1343 t1551.toNat (A1572, (l1343.getD t1551.toNat []).length, C1573) :: os) 94 36 (by kernel_rfl) (by kernel_rfl) (by kernel_rfl) (by kernel_rfl) (fun _ _ => rfl) ?_)
          intro A1572 C1573 hS
          have hC : Core B [Ass.box 105 g1338 [.slice A1340 l1339.length C1341, .slice (some ad1555) l1343.length C1345], Ass.own 3 (Kd.int .i64) A1340 C1341 l1339] [] _ := ⟨_, _, hS.re [3, 3] [] rfl sub_self⟩
          refine ⟨hC, ?_⟩
          obtain ⟨ad1574, rfl⟩ := St.rd_some hS (Rd.own 0 96 rfl) h1560 h1561
          refine ED.Y hN hF hC 10 3 #[true, true, true, true, true, true, true, true, true, true, true, false, false, false] (by kernel_rfl) (by kernel_rfl) rfl (fun _ _ _ hS => YO.idx 94 4 ad1574 (l1343.getD t1551.toNat []).length C1573 .i64 t1558 39 (by kernel_rfl) (by kernel_rfl) (by kernel_rfl) (by kernel_rfl) h1560 h1561) ?_
          refine ED.one 11 2 #[true, true, true, true, true, true, true, true, true, true, true, true, false, false] (by kernel_rfl) (by kernel_rfl) (by kernel_rfl) (EO.Y (YO.loadEl hS kS96 ad1574 C1573 (l1343.getD t1551.toNat []) (Rd.own 0 96 rfl) zS96 encS96 encS96_of t1558 h1560 h1561 96 4 0 4 rfl (.agg #[.int .i64 (((l1343.getD t1551.toNat []).getD t1558.toNat zS96).f0), .int .i64 (((l1343.getD t1551.toNat []).getD t1558.toNat zS96).f1), .int .i32 (((l1343.getD t1551.toNat []).getD t1558.toNat zS96).f2), .int .i64 (((l1343.getD t1551.toNat []).getD t1558.toNat zS96).f3)]) 40 (by kernel_rfl) (by kernel_rfl) (by kernel_rfl) (by kernel_rfl)) ?_)
          have hC : Core B [Ass.box 105 g1338 [.slice A1340 l1339.length C1341, .slice (some ad1555) l1343.length C1345], Ass.own 3 (Kd.int .i64) A1340 C1341 l1339] [] _ := ⟨_, _, hS.re [3, 3] [] rfl sub_self⟩
          refine ⟨hC, ?_⟩
          refine ED.one 12 1 #[true, true, true, true, true, true, true, true, true, true, true, true, true, false] (by kernel_rfl) (by kernel_rfl) (by kernel_rfl) (EO.storeBox (os' := Ass.own 96 kS96 (some ad1574) C1573 (l1343.getD t1551.toNat []) :: Ass.box 96 g1466 [.int .i64 (((l1343.getD t1551.toNat []).getD t1558.toNat zS96).f0), .int .i64 (((l1343.getD t1551.toNat []).getD t1558.toNat zS96).f1), .int .i32 (((l1343.getD t1551.toNat []).getD t1558.toNat zS96).f2), .int .i64 (((l1343.getD t1551.toNat []).getD t1558.toNat zS96).f3)] :: Ass.box 105 g1338 [.slice A1340 l1339.length C1341, .slice (some ad1555) l1343.length C1345] :: Ass.own 3 (Kd.int .i64) A1340 C1341 l1339 :: Ass.holed 94 96 kS96 (some ad1555) C1345 l1343 t1551.toNat ((some ad1574), (l1343.getD t1551.toNat []).length, C1573) :: os) hS 1 rfl 96 0 (.agg #[.int .i64 (((l1343.getD t1551.toNat []).getD t1558.toNat zS96).f0), .int .i64 (((l1343.getD t1551.toNat []).getD t1558.toNat zS96).f1), .int .i32 (((l1343.getD t1551.toNat []).getD t1558.toNat zS96).f2), .int .i64 (((l1343.getD t1551.toNat []).getD t1558.toNat zS96).f3)]) [.int .i64 (((l1343.getD t1551.toNat []).getD t1558.toNat zS96).f0), .int .i64 (((l1343.getD t1551.toNat []).getD t1558.toNat zS96).f1), .int .i32 (((l1343.getD t1551.toNat []).getD t1558.toNat zS96).f2), .int .i64 (((l1343.getD t1551.toNat []).getD t1558.toNat zS96).f3)] (by kernel_rfl) (by kernel_rfl) (by kernel_rfl) (by kernel_rfl) (by kernel_rfl) (by kernel_rfl) rfl rfl ?_)
          intro w hS
          have hC : Core B [Ass.box 105 g1338 [.slice A1340 l1339.length C1341, .slice (some ad1555) l1343.length C1345], Ass.own 3 (Kd.int .i64) A1340 C1341 l1339] [] _ := ⟨_, _, hS.re [3, 3] [] rfl sub_self⟩
          refine ⟨hC, ?_⟩
          refine ED.quick hN hF hC [13] [4, 5] 0 [(4, .pointer (some ⟨g1466, 0, none⟩)), (5, .bool (true))] #[true, true, true, true, true, true, true, true, true, true, true, true, true, true] (by kernel_rfl) (by kernel_rfl) ?_
          refine ED.done (by kernel_rfl) ?_
          have hS := St.as (os' := Ass.box 96 g1466 [.int .i64 (((l1343.getD t1551.toNat []).getD t1558.toNat zS96).f0), .int .i64 (((l1343.getD t1551.toNat []).getD t1558.toNat zS96).f1), .int .i32 (((l1343.getD t1551.toNat []).getD t1558.toNat zS96).f2), .int .i64 (((l1343.getD t1551.toNat []).getD t1558.toNat zS96).f3)] :: Ass.box 105 g1338 [.slice A1340 l1339.length C1341, .slice (some ad1555) l1343.length C1345] :: Ass.own 3 (Kd.int .i64) A1340 C1341 l1339 :: Ass.deep 94 96 kS96 (some ad1555) C1345 l1343 :: os) (St.close hS 0 3 rfl rfl rfl l1343 (set_getD _ _)) rfl
          refine EQ.to ?_
          refine EQ.keep [4, 5] [(4, .pointer (some ⟨g1466, 0, none⟩)), (5, .bool (true))] (by kernel_rfl) ?_
          exact fun a ha => ⟨ha, (hS.re [3, 3, 3, 3] [] rfl (sub_self))⟩
      · obtain ⟨ha, hS⟩ := hI
        refine EQ.at ?_ a ha
        clear ha a
        refine EQ.code ?_
        refine EW.ret (by kernel_rfl) ?_
        simp only [Option.some.injEq, Prod.mk.injEq] at H
        obtain ⟨rfl, rfl⟩ := H
        exact EQ.leave2 hS (.cell 4 96) (.tmp 5) (.agg #[.int .i64 (((l1343.getD t1551.toNat []).getD t1558.toNat zS96).f0), .int .i64 (((l1343.getD t1551.toNat []).getD t1558.toNat zS96).f1), .int .i32 (((l1343.getD t1551.toNat []).getD t1558.toNat zS96).f2), .int .i64 (((l1343.getD t1551.toNat []).getD t1558.toNat zS96).f3)]) (.bool (true)) (by kernel_rfl) ⟨0, 96, g1466, [.int .i64 (((l1343.getD t1551.toNat []).getD t1558.toNat zS96).f0), .int .i64 (((l1343.getD t1551.toNat []).getD t1558.toNat zS96).f1), .int .i32 (((l1343.getD t1551.toNat []).getD t1558.toNat zS96).f2), .int .i64 (((l1343.getD t1551.toNat []).getD t1558.toNat zS96).f3)], 0, 4, rfl, (by kernel_rfl), (by kernel_rfl)⟩ (oneTmp (by kernel_rfl)) ⟨_, rfl, rfl, (hS.re [3, 3, 3] [3] rfl (sub_self))⟩

end Go.Proofs.Ytipaaapbapijhaa.G
