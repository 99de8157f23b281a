import Derived.Test.YtifnjijlbcacoaaProg
import Derived.Test.YtifnjijlbcacoaaFwEq
import Derived.Test.YtifnjijlbcacoaaFwOpen
import Derived.Test.YtifnjijlbcacoaaG0
namespace Go.Proofs.Ytifnjijlbcacoaa.G
open Go Go.Fw Go.RowKit Go.Proofs
set_option linter.unusedVariables false
set_option linter.unusedSimpArgs false

structure S65 where
  f0 : Int
  f1 : Int
  f2 : Int
  f3 : Int
  f4 : Int
  f5 : Int
deriving DecidableEq
def zS65 : S65 := ⟨0, 0, 0, 0, 0, 0⟩
def kS65 : Kd S65 := Kd.iso (Kd.prod (Kd.int .u8) (Kd.prod (Kd.int .u8) (Kd.prod (Kd.int .u8) (Kd.prod (Kd.int .u8) (Kd.prod (Kd.int .i32) (Kd.prod (Kd.int .i32) Kd.unit)))))) (fun s => (s.f0, s.f1, s.f2, s.f3, s.f4, s.f5, ()))
def encS65 (s : S65) : List Value := [.int .u8 s.f0, .int .u8 s.f1, .int .u8 s.f2, .int .u8 s.f3, .int .i32 s.f4, .int .i32 s.f5]
theorem encS65_of (w : World) (G : Bl) (vs : List Value) (x : S65) (h : kS65.rep w G vs x) : vs = encS65 x := by
  obtain ⟨_, _, rfl, h0, ⟨_, _, rfl, h1, ⟨_, _, rfl, h2, ⟨_, _, rfl, h3, ⟨_, _, rfl, h4, ⟨_, _, rfl, h5, hu⟩⟩⟩⟩⟩⟩ := h
  have h0 := encI_of _ _ _ _ h0
  have h1 := encI_of _ _ _ _ h1
  have h2 := encI_of _ _ _ _ h2
  have h3 := encI_of _ _ _ _ h3
  have h4 := encI_of _ _ _ _ h4
  have h5 := encI_of _ _ _ _ h5
  have hu : _ = [] := hu
  subst hu
  subst h0
  subst h1
  subst h2
  subst h3
  subst h4
  subst h5
  rfl

noncomputable def Cd9 : Code := bodyOf Try.f9

noncomputable def Cd33 : Code := bodyOf Try.f33

noncomputable def Cd35 : Code := bodyOf Try.f35

noncomputable def Cd37 : Code := bodyOf Try.f37

noncomputable def Cd39 : Code := bodyOf Try.f39

noncomputable def Cd41 : Code := bodyOf Try.f41

noncomputable def Cd43 : Code := bodyOf Try.f43

noncomputable def Cd50 : Code := bodyOf Try.f50

noncomputable def Cd52 : Code := bodyOf Try.f52

noncomputable def Cd54 : Code := bodyOf Try.f54

noncomputable def Cd55 : Code := bodyOf Try.f55

noncomputable def Cd56 : Code := bodyOf Try.f56

noncomputable def Cd61 : Code := bodyOf Try.f61

/-! ### confidant/confidanthelp.Place: function 33 -/
def confidanthelp_Place.f (K : Nat) (a40 : Int) (a41 : Int) : Option Int := if a41 = 0 then none else (if (Int.tmod a40 a41) < 0 then (some (IntKind.i64.wrap ((Int.tmod a40 a41) + a41))) else (some (Int.tmod a40 a41)))
set_option maxRecDepth 100000 in
theorem confidanthelp_Place.calls {K : Nat} {a40 : Int} {a41 : Int} {x45 : Int} {B w : World} {os : List Ass} {rs : List Ro} (H : confidanthelp_Place.f K a40 a41 = some x45) (hS : St B w (os) (rs)) :
    Calls Try.prog 33 [.int .i64 a40, .int .i64 a41].toArray w (fun en w' => ∃ v, en = .returned v ∧ v = .int .i64 x45 ∧ St B w' (os) (rs)) := by
  unfold confidanthelp_Place.f at H
  refine calls_of_EW (args := [.int .i64 a40, .int .i64 a41]) (c := Cd33) 14 Try.func33 (by kernel_rfl) (by kernel_rfl) (by kernel_rfl) ?_
  refine EW.seq (x := Cd33.l) (y := Cd33.r) (by kernel_rfl) ?_
  refine EW.region (id := 0) (ops := Cd33.l.ops) (by kernel_rfl) ?_
  refine EL.quick 1 [0, 1] [(0, .int .i64 a40), (1, .int .i64 a41)] (by kernel_rfl) ?_
  refine EL.done (by kernel_rfl) ?_
  refine EQ.code ?_
  refine EW.seq (x := Cd33.r.l) (y := Cd33.r.r) (by kernel_rfl) ?_
  refine EW.region (id := 1) (ops := Cd33.r.l.ops) (by kernel_rfl) ?_
  refine EL.quick 2 [1, 5, 6] [(1, .int .i64 a41), (5, .int .i64 a40), (6, .int .i64 a41)] (by kernel_rfl) ?_
  obtain ⟨h47, H⟩ := ite_out H
  refine EL.of (EO.Y (YO.div .rem .i64 a40 a41 (Int.tmod a40 a41) 7 (by kernel_rfl) (by kernel_rfl) (by kernel_rfl) h47 (by first | exact .inl ⟨rfl, rfl⟩ | exact .inr ⟨rfl, rfl⟩)) ?_)
  refine EL.quick 1 [0, 1] [(0, .int .i64 (Int.tmod a40 a41)), (1, .int .i64 a41)] (by kernel_rfl) ?_
  refine EL.done (by kernel_rfl) ?_
  refine EQ.code ?_
  refine EW.seq (x := Cd33.r.r.l) (y := Cd33.r.r.r) (by kernel_rfl) ?_
  refine EW.seq (x := Cd33.r.r.l.l) (y := Cd33.r.r.l.r) (by kernel_rfl) ?_
  refine EW.region (id := 2) (ops := Cd33.r.r.l.l.ops) (by kernel_rfl) ?_
  refine EL.quick 2 [0, 1, 9] [(0, .int .i64 (Int.tmod a40 a41)), (1, .int .i64 a41), (9, .bool (decide ((Int.tmod a40 a41) < 0)))] (by kernel_rfl) ?_
  refine EL.done (by kernel_rfl) ?_
  refine EQ.code ?_
  refine EW.condP (o := (.tmp 9)) (x := Cd33.r.r.l.r.l) (y := Cd33.r.r.l.r.r) ((Int.tmod a40 a41) < 0) (by kernel_rfl) (by kernel_rfl) (fun h48 => ?_) (fun h48 => ?_)
  · rw [if_pos h48] at H
    refine EW.region (id := 3) (ops := Cd33.r.r.l.r.l.ops) (by kernel_rfl) ?_
    refine EL.quick 4 [0] [(0, .int .i64 (IntKind.i64.wrap ((Int.tmod a40 a41) + a41)))] (by kernel_rfl) ?_
    refine EL.done (by kernel_rfl) ?_
    refine EQ.code ?_
    refine EW.seq (x := Cd33.r.r.r.l) (y := Cd33.r.r.r.r) (by kernel_rfl) ?_
    refine EW.region (id := 4) (ops := Cd33.r.r.r.l.ops) (by kernel_rfl) ?_
    refine EL.quick 2 [4] [(4, .int .i64 (IntKind.i64.wrap ((Int.tmod a40 a41) + a41)))] (by kernel_rfl) ?_
    refine EL.done (by kernel_rfl) ?_
    refine EQ.code ?_
    refine EW.ret (by kernel_rfl) ?_
    obtain rfl := Option.some.inj H
    exact EQ.leave (.int .i64 (IntKind.i64.wrap ((Int.tmod a40 a41) + a41))) (by kernel_rfl) ⟨_, rfl, rfl, (hS.re [] [] rfl (sub_self))⟩
  · rw [if_neg h48] at H
    refine EW.skip (by kernel_rfl) ?_
    refine EQ.code ?_
    refine EW.seq (x := Cd33.r.r.r.l) (y := Cd33.r.r.r.r) (by kernel_rfl) ?_
    refine EW.region (id := 4) (ops := Cd33.r.r.r.l.ops) (by kernel_rfl) ?_
    refine EL.quick 2 [4] [(4, .int .i64 (Int.tmod a40 a41))] (by kernel_rfl) ?_
    refine EL.done (by kernel_rfl) ?_
    refine EQ.code ?_
    refine EW.ret (by kernel_rfl) ?_
    obtain rfl := Option.some.inj H
    exact EQ.leave (.int .i64 (Int.tmod a40 a41)) (by kernel_rfl) ⟨_, rfl, rfl, (hS.re [] [] rfl (sub_self))⟩

/-! ### confidant/confidantref12.quotas: function 50 -/
def confidantref12_quotas.l0 (K : Nat) (l440 : List Int) : Nat → (List Int) → Int → Option (List Int)
  | 0, _, _ => none
  | n + 1, x698, x702 => lt (fun (x754 : Bool) => (if x754 = true then (if 0 ≤ x702 then (if x702 < (l440.length : Int) then (lt ([mn (mx (l440.getD x702.toNat 0) 0) 4096] : List Int) fun l771 => (if (x698.length + l771.length) * 8 ≤ 140737488355328 then (lt (x698 ++ l771) fun l773 => (confidantref12_quotas.l0 K l440 n l773 (IntKind.i64.wrap (x702 + 1)))) else none)) else none) else none) else (some x698))) fun j755 => (if x702 < (l440.length : Int) then (j755 (decide (x702 < 16))) else (j755 false))
def confidantref12_quotas.f (K : Nat) (l440 : List Int) : Option (List Int) := confidantref12_quotas.l0 K l440 K ([] : List Int) 0
set_option maxRecDepth 100000 in
theorem confidantref12_quotas.calls {K : Nat} {l440 : List Int} {A441 : Option Addr} {C442 : Nat} {x607 : List Int} {B w : World} {os : List Ass} {rs : List Ro} (H : confidantref12_quotas.f K l440 = some x607) (hS : St B w (os) (Ro.sl (Kd.int .i64) A441 C442 l440 :: rs)) :
    Calls Try.prog 50 [.slice A441 l440.length C442].toArray w (fun en w' => ∃ v, en = .returned v ∧ ∃ A608 : Option Addr, ∃ C609 : Nat, v = .slice A608 x607.length C609 ∧ St B w' (Ass.own 3 (Kd.int .i64) A608 C609 x607 :: os) (Ro.sl (Kd.int .i64) A441 C442 l440 :: rs)) := by
  unfold confidantref12_quotas.f at H
  refine calls_of_EW (args := [.slice A441 l440.length C442]) (c := Cd50) 25 Try.func50 (by kernel_rfl) (by kernel_rfl) (by kernel_rfl) ?_
  refine EW.seq (x := Cd50.l) (y := Cd50.r) (by kernel_rfl) ?_
  refine EW.region (id := 0) (ops := Cd50.l.ops) (by kernel_rfl) ?_
  refine EL.quick 1 [0] [(0, .slice A441 l440.length C442)] (by kernel_rfl) ?_
  refine EL.done (by kernel_rfl) ?_
  refine EQ.code ?_
  refine EW.seq (x := Cd50.r.l) (y := Cd50.r.r) (by kernel_rfl) ?_
  refine EW.region (id := 1) (ops := Cd50.r.l.ops) (by kernel_rfl) ?_
  refine EL.quick 1 [0, 3] [(0, .slice A441 l440.length C442), (3, .slice none ([] : List Int).length 0)] (by kernel_rfl) ?_
  refine EL.done (by kernel_rfl) ?_
  refine EQ.code ?_
  refine EW.seq (x := Cd50.r.r.l) (y := Cd50.r.r.r) (by kernel_rfl) ?_
  refine EW.seq (x := Cd50.r.r.l.l) (y := Cd50.r.r.l.r) (by kernel_rfl) ?_
  refine EW.region (id := 2) (ops := Cd50.r.r.l.l.ops) (by kernel_rfl) ?_
  refine EL.quick 1 [0, 3, 4] [(0, .slice A441 l440.length C442), (3, .slice none ([] : List Int).length 0), (4, .int .i64 0)] (by kernel_rfl) ?_
  refine EL.done (by kernel_rfl) ?_
  refine EQ.code ?_
  refine EW.block (x := Cd50.r.r.l.r.l) (id := 0) (by kernel_rfl) ?_
  have hS := St.nilO hS 3 (Kd.int .i64)
  refine EW.loop (x := Cd50.r.r.l.r.l.l) (fun n a w => ∃ x698 : List Int, ∃ x702 : Int, ∃ A699 : Option Addr, ∃ C700 : Nat, Sat 25 [(0, .slice A441 l440.length C442), (3, .slice A699 x698.length C700), (4, .int .i64 x702)] a ∧ St B w (Ass.own 3 (Kd.int .i64) A699 C700 x698 :: os) (Ro.sl (Kd.int .i64) A441 C442 l440 :: rs) ∧ confidantref12_quotas.l0 K l440 n x698 x702 = some x607) K (by kernel_rfl) ?_ (fun n a w hI => ?_)
  · refine EQ.keep [0, 3, 4] [(0, .slice A441 l440.length C442), (3, .slice none ([] : List Int).length 0), (4, .int .i64 0)] (by kernel_rfl) ?_
    exact fun a ha => ⟨([] : List Int), 0, none, 0, ha, (hS.re [0] [] rfl (sub_cons 0 rfl (sub_tail (sub_self)))), H⟩
  · obtain ⟨x698, x702, A699, C700, ha, hS, H⟩ := hI
    obtain _ | n := n
    · simp [confidantref12_quotas.l0] at H
    rw [confidantref12_quotas.l0.eq_2] at H
    refine EW.at ?_ a ha
    clear ha a
    refine EW.seq (x := Cd50.r.r.l.r.l.l.l) (y := Cd50.r.r.l.r.l.l.r) (by kernel_rfl) ?_
    obtain ⟨j755, hj755, H⟩ := lt_out H
    refine EW.cut (x := Cd50.r.r.l.r.l.l.l.l) (y := Cd50.r.r.l.r.l.l.l.r) (fun a w => ∃ x754 : Bool, Sat 25 [(0, .slice A441 l440.length C442), (3, .slice A699 x698.length C700), (4, .int .i64 x702), (12, .bool (x754))] a ∧ St B w (Ass.own 3 (Kd.int .i64) A699 C700 x698 :: os) (Ro.sl (Kd.int .i64) A441 C442 l440 :: rs) ∧ j755 x754 = some x607) (by kernel_rfl) ?_ (fun a w hI => ?_)
    · refine EW.region (id := 3) (ops := Cd50.r.r.l.r.l.l.l.l.ops) (by kernel_rfl) ?_
      refine EL.quick 5 [0, 3, 4, 9] [(0, .slice A441 l440.length C442), (3, .slice A699 x698.length C700), (4, .int .i64 x702), (9, .bool (decide (x702 < (l440.length : Int))))] (by kernel_rfl) ?_
      by_cases h756 : x702 < (l440.length : Int)
      · rw [if_pos h756] at H
        refine EL.keep [0, 3, 4, 9] [(0, .slice A441 l440.length C442), (3, .slice A699 x698.length C700), (4, .int .i64 x702), (9, .bool (decide (x702 < (l440.length : Int))))] (by kernel_rfl) ?_
        refine EL.as' [(0, .slice A441 l440.length C442), (3, .slice A699 x698.length C700), (4, .int .i64 x702), (9, .bool (true))] (by simp only [dec_t h756, Bool.not_true, Bool.not_false]) ?_
        refine EL.quick 3 [0, 3, 4, 10, 11, 12] [(0, .slice A441 l440.length C442), (3, .slice A699 x698.length C700), (4, .int .i64 x702), (10, .int .i64 x702), (11, .bool (decide (x702 < 16))), (12, .bool (decide (x702 < 16)))] (by kernel_rfl) ?_
        refine EL.done (by kernel_rfl) ?_
        refine EQ.to ?_
        refine EQ.keep [0, 3, 4, 12] [(0, .slice A441 l440.length C442), (3, .slice A699 x698.length C700), (4, .int .i64 x702), (12, .bool (decide (x702 < 16)))] (by kernel_rfl) ?_
        exact fun a ha => ⟨decide (x702 < 16), ha, (hS.re [0] [] rfl (sub_cons 0 rfl (sub_tail (sub_self)))), H⟩
      · rw [if_neg h756] at H
        refine EL.keep [0, 3, 4, 9] [(0, .slice A441 l440.length C442), (3, .slice A699 x698.length C700), (4, .int .i64 x702), (9, .bool (decide (x702 < (l440.length : Int))))] (by kernel_rfl) ?_
        refine EL.as' [(0, .slice A441 l440.length C442), (3, .slice A699 x698.length C700), (4, .int .i64 x702), (9, .bool (false))] (by simp only [dec_f h756, Bool.not_true, Bool.not_false]) ?_
        refine EL.quick 3 [0, 3, 4, 12] [(0, .slice A441 l440.length C442), (3, .slice A699 x698.length C700), (4, .int .i64 x702), (12, .bool (false))] (by kernel_rfl) ?_
        refine EL.done (by kernel_rfl) ?_
        refine EQ.to ?_
        refine EQ.keep [0, 3, 4, 12] [(0, .slice A441 l440.length C442), (3, .slice A699 x698.length C700), (4, .int .i64 x702), (12, .bool (false))] (by kernel_rfl) ?_
        exact fun a ha => ⟨false, ha, (hS.re [0] [] rfl (sub_cons 0 rfl (sub_tail (sub_self)))), H⟩
    · obtain ⟨x754, ha, hS, H⟩ := hI
      rw [hj755] at H
      (try dsimp only at H)
      refine EW.at ?_ a ha
      clear ha a
      refine EW.condP' (o := (.tmp 12)) (x := Cd50.r.r.l.r.l.l.l.r.l) (y := Cd50.r.r.l.r.l.l.l.r.r) (x754) (by kernel_rfl) (by kernel_rfl) (fun h757 => ?_) (fun h757 => ?_)
      · rw [if_pos h757] at H
        refine EW.skip (by kernel_rfl) ?_
        refine EQ.code ?_
        refine EW.seq (x := Cd50.r.r.l.r.l.l.r.l) (y := Cd50.r.r.l.r.l.l.r.r) (by kernel_rfl) ?_
        refine EW.block (x := Cd50.r.r.l.r.l.l.r.l.l) (id := 1) (by kernel_rfl) ?_
        refine EW.region (id := 5) (ops := Cd50.r.r.l.r.l.l.r.l.l.ops) (by kernel_rfl) ?_
        refine EL.quick 3 [0, 4, 15, 16, 17] [(0, .slice A441 l440.length C442), (4, .int .i64 x702), (15, .slice A699 x698.length C700), (16, .slice A441 l440.length C442), (17, .int .i64 x702)] (by kernel_rfl) ?_
        obtain ⟨h767, H⟩ := ite_in H
        obtain ⟨h768, H⟩ := ite_in H
        obtain ⟨ad769, rfl⟩ := St.rd_some hS (Rd.ro 0 rfl) h767 h768
        refine EL.of (EO.Y (YO.idx 24 1 ad769 l440.length C442 .i64 x702 18 (by kernel_rfl) (by kernel_rfl) (by kernel_rfl) (by kernel_rfl) h767 h768) ?_)
        refine EL.of (EO.Y (YO.loadEl hS (Kd.int .i64) ad769 C442 l440 (Rd.ro 0 rfl) 0 (encI .i64) encI_of x702 h767 h768 3 1 0 1 rfl (.int .i64 (l440.getD x702.toNat 0)) 19 (by kernel_rfl) (by kernel_rfl) (by kernel_rfl) (by kernel_rfl)) ?_)
        refine EL.quick 2 [0, 4, 15, 21] [(0, .slice (some ad769) l440.length C442), (4, .int .i64 x702), (15, .slice A699 x698.length C700), (21, .int .i64 (mn (mx (l440.getD x702.toNat 0) 0) 4096))] (by kernel_rfl) ?_
        obtain ⟨l771, hl771, H⟩ := lt_out H
        refine EL.of (EO.lit hS (Kd.int .i64) 3 24 1 #[(0, .int .i64 (mn (mx (l440.getD x702.toNat 0) 0) 4096))] [.int .i64 (mn (mx (l440.getD x702.toNat 0) 0) 4096)] l771 22 (by kernel_rfl) (by kernel_rfl) (by kernel_rfl) (fun _ => (by kernel_rfl)) (by rw [hl771]; rfl) (by kernel_rfl) (fun w G hr => (by rw [hl771]; exact ⟨[.int .i64 (mn (mx (l440.getD x702.toNat 0) 0) 4096)], [], rfl, rfl, rfl⟩)) ?_)
        intro g770 w hS
        obtain ⟨h772, H⟩ := ite_in H
        obtain ⟨l773, hl773, H⟩ := lt_out H
        refine EL.of (EO.append hS 24 24 3 8 1 (Kd.int .i64) A699 C700 x698 rfl (some ⟨g770, 0, none⟩) 1 l771 (Rd.own 0 3 rfl) l773 hl773 (fun A774 C775 => Ass.own 3 (Kd.int .i64) (some ⟨g770, 0, none⟩) 1 l771 :: Ass.own 3 (Kd.int .i64) A774 C775 l773 :: os) 23 (by kernel_rfl) (by kernel_rfl) (by kernel_rfl) (by kernel_rfl) h772 (fun _ _ => rfl) ?_)
        intro A774 C775 w hS
        refine EL.quick 1 [0, 3, 4] [(0, .slice (some ad769) l440.length C442), (3, .slice A774 l773.length C775), (4, .int .i64 x702)] (by kernel_rfl) ?_
        refine EL.done (by kernel_rfl) ?_
        refine EQ.pop ?_
        refine EQ.code ?_
        refine EW.region (id := 4) (ops := Cd50.r.r.l.r.l.l.r.r.ops) (by kernel_rfl) ?_
        refine EL.quick 3 [0, 3, 4] [(0, .slice (some ad769) l440.length C442), (3, .slice A774 l773.length C775), (4, .int .i64 (IntKind.i64.wrap (x702 + 1)))] (by kernel_rfl) ?_
        refine EL.done (by kernel_rfl) ?_
        refine EQ.to ?_
        refine EQ.keep [0, 3, 4] [(0, .slice (some ad769) l440.length C442), (3, .slice A774 l773.length C775), (4, .int .i64 (IntKind.i64.wrap (x702 + 1)))] (by kernel_rfl) ?_
        exact fun a ha => ⟨n, Nat.lt_succ_self n, l773, IntKind.i64.wrap (x702 + 1), A774, C775, ha, (hS.re [1] [1] rfl (sub_cons 0 rfl (sub_tail (sub_self)))), H⟩
      · rw [if_neg h757] at H
        refine EW.exit (id := 0) (by kernel_rfl) ?_
        refine EQ.exitCode ?_
        refine EQ.exitTo ?_
        refine EQ.exitHere ?_
        refine EQ.code ?_
        refine EW.seq (x := Cd50.r.r.r.l) (y := Cd50.r.r.r.r) (by kernel_rfl) ?_
        refine EW.region (id := 6) (ops := Cd50.r.r.r.l.ops) (by kernel_rfl) ?_
        refine EL.quick 2 [2] [(2, .slice A699 x698.length C700)] (by kernel_rfl) ?_
        refine EL.done (by kernel_rfl) ?_
        refine EQ.code ?_
        refine EW.ret (by kernel_rfl) ?_
        obtain rfl := Option.some.inj H
        exact EQ.leave (.slice A699 x698.length C700) (by kernel_rfl) ⟨_, rfl, A699, C700, rfl, (hS.re [0] [] rfl (sub_self))⟩

/-! ### confidant/confidantref12.NewArena: function 35 -/
def confidantref12_NewArena.f (K : Nat) (l437 : List Int) : Option (List Int × List (List S69)) := b1 (confidantref12_quotas.f K l437) fun (t800 : List Int) => (if 0 ≤ (t800.length : Int) then (if (24 : Int) * (t800.length : Int) ≤ 140737488355328 then (lt (List.replicate (t800.length : Int).toNat [] : List (List S69)) fun l807 => (some (t800, l807))) else none) else none)
set_option maxRecDepth 100000 in
theorem confidantref12_NewArena.calls {K : Nat} {l437 : List Int} {A438 : Option Addr} {C439 : Nat} {x790 : List Int} {x793 : List (List S69)} {B w : World} {os : List Ass} {rs : List Ro} (H : confidantref12_NewArena.f K l437 = some (x790, x793)) (hS : St B w (os) (Ro.sl (Kd.int .i64) A438 C439 l437 :: rs)) :
    Calls Try.prog 35 [.slice A438 l437.length C439].toArray w (fun en w' => ∃ v, en = .returned v ∧ ∃ g789 : Nat, ∃ A791 : Option Addr, ∃ C792 : Nat, ∃ A794 : Option Addr, ∃ C795 : Nat, v = .pointer (some ⟨g789, 0, none⟩) ∧ St B w' (Ass.box 75 g789 [.slice A791 x790.length C792, .slice A794 x793.length C795] :: Ass.own 3 (Kd.int .i64) A791 C792 x790 :: Ass.deep 76 69 kS69 A794 C795 x793 :: os) (Ro.sl (Kd.int .i64) A438 C439 l437 :: rs)) := by
  unfold confidantref12_NewArena.f at H
  refine calls_of_EW (args := [.slice A438 l437.length C439]) (c := Cd35) 12 Try.func35 (by kernel_rfl) (by kernel_rfl) (by kernel_rfl) ?_
  refine EW.seq (x := Cd35.l) (y := Cd35.r) (by kernel_rfl) ?_
  refine EW.region (id := 0) (ops := Cd35.l.ops) (by kernel_rfl) ?_
  refine EL.quick 1 [0] [(0, .slice A438 l437.length C439)] (by kernel_rfl) ?_
  refine EL.done (by kernel_rfl) ?_
  refine EQ.code ?_
  refine EW.seq (x := Cd35.r.l) (y := Cd35.r.r) (by kernel_rfl) ?_
  refine EW.region (id := 1) (ops := Cd35.r.l.ops) (by kernel_rfl) ?_
  refine EL.quick 1 [4] [(4, .slice A438 l437.length C439)] (by kernel_rfl) ?_
  have hS : St B _ (os) (Ro.sl (Kd.int .i64) A438 C439 l437 :: Ro.sl (Kd.int .i64) A438 C439 l437 :: rs) := hS.re [] [] rfl (sub_cons 0 rfl sub_self)
  obtain ⟨t800, hc803, H⟩ := b1_out H
  refine EL.of (EO.callD 50 [.slice A438 l437.length C439] _ 5 (by kernel_rfl) (by kernel_rfl) (by kernel_rfl) (confidantref12_quotas.calls hc803 hS) ?_)
  rintro v w ⟨A801, C802, rfl, hS⟩
  refine EL.quick 1 [3] [(3, .slice A801 t800.length C802)] (by kernel_rfl) ?_
  refine EL.done (by kernel_rfl) ?_
  refine EQ.code ?_
  refine EW.seq (x := Cd35.r.r.l) (y := Cd35.r.r.r) (by kernel_rfl) ?_
  refine EW.region (id := 2) (ops := Cd35.r.r.l.ops) (by kernel_rfl) ?_
  refine EL.quick 3 [6, 8] [(6, .slice A801 t800.length C802), (8, .int .i64 (t800.length : Int))] (by kernel_rfl) ?_
  obtain ⟨h805, H⟩ := ite_in H
  obtain ⟨h806, H⟩ := ite_in H
  obtain ⟨l807, hl807, H⟩ := lt_out H
  refine EL.of (EO.make (xs := List.replicate (t800.length : Int).toNat ((none, 0, 0) : Hdr)) hS Kd.hdr 76 73 24 .i64 .i64 (t800.length : Int) (none, 0, 0) [.slice none ([] : List S69).length 0] rfl 9 (by kernel_rfl) (by kernel_rfl) (by kernel_rfl) (by kernel_rfl) (by kernel_rfl) h805 h806 (fun w G => rfl) ?_)
  intro g804 w hS
  have hS : St B w (Ass.deep 76 69 kS69 (some ⟨g804, 0, none⟩) ((t800.length : Int).toNat) l807 :: Ass.own 3 (Kd.int .i64) A801 C802 t800 :: os) (Ro.sl (Kd.int .i64) A438 C439 l437 :: Ro.sl (Kd.int .i64) A438 C439 l437 :: rs) := by rw [hl807]; exact St.madeDeep (et := 76) (et' := 69) (K := kS69) hS
  refine EL.as' ((9, .slice (some ⟨g804, 0, none⟩) l807.length ((t800.length : Int).toNat)) :: _) (by rw [hl807, List.length_replicate, List.length_replicate]) ?_
  refine EL.quick 1 [10] [(10, .agg #[.slice A801 t800.length C802, .slice (some ⟨g804, 0, none⟩) l807.length ((t800.length : Int).toNat)])] (by kernel_rfl) ?_
  refine EL.of (EO.box hS 75 (.agg #[.slice A801 t800.length C802, .slice (some ⟨g804, 0, none⟩) l807.length ((t800.length : Int).toNat)]) [.slice A801 t800.length C802, .slice (some ⟨g804, 0, none⟩) l807.length ((t800.length : Int).toNat)] 11 (by kernel_rfl) (by kernel_rfl) (by kernel_rfl) (by first | rfl | kernel_rfl) ?_)
  intro g808 w hS
  refine EL.quick 1 [2] [(2, .pointer (some ⟨g808, 0, none⟩))] (by kernel_rfl) ?_
  refine EL.done (by kernel_rfl) ?_
  refine EQ.code ?_
  refine EW.ret (by kernel_rfl) ?_
  simp only [Option.some.injEq, Prod.mk.injEq] at H
  obtain ⟨rfl, rfl⟩ := H
  exact EQ.leave (.pointer (some ⟨g808, 0, none⟩)) (by kernel_rfl) ⟨_, rfl, g808, A801, C802, (some ⟨g804, 0, none⟩), (t800.length : Int).toNat, rfl, (hS.re [1, 2, 2] [] rfl (sub_tail (sub_self)))⟩

/-! ### confidant/confidantref9.Of: function 52 -/
def confidantref9_Of.f (K : Nat) (a951 : Int) (a952 : Int) : Option (Int × Bool) := lt (fun (x1002 : Bool) => (if x1002 = true then (some (0, false)) else (lt (IntKind.i32.wrap (IntKind.i64.wrap ((IntKind.i64.wrap (a951 * 65536)) + a952))) fun y1008 => (some (y1008, true))))) fun j1003 => (if a951 < 0 then (j1003 true) else (if a951 ≥ 16 then (j1003 true) else (if a952 < 0 then (j1003 true) else (j1003 (decide (a952 ≥ 65536))))))
set_option maxRecDepth 100000 in
theorem confidantref9_Of.calls {K : Nat} {a951 : Int} {a952 : Int} {x980 : Int} {x981 : Bool} {B w : World} {os : List Ass} {rs : List Ro} (H : confidantref9_Of.f K a951 a952 = some (x980, x981)) (hS : St B w (os) (rs)) :
    Calls Try.prog 52 [.int .i64 a951, .int .i64 a952].toArray w (fun en w' => ∃ v, en = .returned v ∧ v = .tuple #[.int .i32 x980, .bool (x981)] ∧ St B w' (os) (rs)) := by
  unfold confidantref9_Of.f at H
  refine calls_of_EW (args := [.int .i64 a951, .int .i64 a952]) (c := Cd52) 25 Try.func52 (by kernel_rfl) (by kernel_rfl) (by kernel_rfl) ?_
  refine EW.seq (x := Cd52.l) (y := Cd52.r) (by kernel_rfl) ?_
  refine EW.region (id := 0) (ops := Cd52.l.ops) (by kernel_rfl) ?_
  refine EL.quick 2 [0, 1] [(0, .int .i64 a951), (1, .int .i64 a952)] (by kernel_rfl) ?_
  refine EL.done (by kernel_rfl) ?_
  refine EQ.code ?_
  refine EW.seq (x := Cd52.r.l) (y := Cd52.r.r) (by kernel_rfl) ?_
  obtain ⟨j1003, hj1003, H⟩ := lt_out H
  refine EW.cut (x := Cd52.r.l.l) (y := Cd52.r.l.r) (fun a w => ∃ x1002 : Bool, Sat 25 [(0, .int .i64 a951), (1, .int .i64 a952), (19, .bool (x1002))] a ∧ St B w (os) (rs) ∧ j1003 x1002 = some (x980, x981)) (by kernel_rfl) ?_ (fun a w hI => ?_)
  · refine EW.region (id := 1) (ops := Cd52.r.l.l.ops) (by kernel_rfl) ?_
    refine EL.quick 3 [0, 1, 8] [(0, .int .i64 a951), (1, .int .i64 a952), (8, .bool (decide (a951 < 0)))] (by kernel_rfl) ?_
    by_cases h1004 : a951 < 0
    · rw [if_pos h1004] at H
      refine EL.keep [0, 1, 8] [(0, .int .i64 a951), (1, .int .i64 a952), (8, .bool (decide (a951 < 0)))] (by kernel_rfl) ?_
      refine EL.as' [(0, .int .i64 a951), (1, .int .i64 a952), (8, .bool (true))] (by simp only [dec_t h1004, Bool.not_true, Bool.not_false]) ?_
      refine EL.quick 11 [0, 1, 19] [(0, .int .i64 a951), (1, .int .i64 a952), (19, .bool (true))] (by kernel_rfl) ?_
      refine EL.done (by kernel_rfl) ?_
      refine EQ.to ?_
      refine EQ.keep [0, 1, 19] [(0, .int .i64 a951), (1, .int .i64 a952), (19, .bool (true))] (by kernel_rfl) ?_
      exact fun a ha => ⟨true, ha, (hS.re [] [] rfl (sub_self)), H⟩
    · rw [if_neg h1004] at H
      refine EL.keep [0, 1, 8] [(0, .int .i64 a951), (1, .int .i64 a952), (8, .bool (decide (a951 < 0)))] (by kernel_rfl) ?_
      refine EL.as' [(0, .int .i64 a951), (1, .int .i64 a952), (8, .bool (false))] (by simp only [dec_f h1004, Bool.not_true, Bool.not_false]) ?_
      refine EL.quick 4 [0, 1, 12] [(0, .int .i64 a951), (1, .int .i64 a952), (12, .bool (decide (a951 ≥ 16)))] (by kernel_rfl) ?_
      by_cases h1005 : a951 ≥ 16
      · rw [if_pos h1005] at H
        refine EL.keep [0, 1, 12] [(0, .int .i64 a951), (1, .int .i64 a952), (12, .bool (decide (a951 ≥ 16)))] (by kernel_rfl) ?_
        refine EL.as' [(0, .int .i64 a951), (1, .int .i64 a952), (12, .bool (true))] (by simp only [dec_t h1005, Bool.not_true, Bool.not_false]) ?_
        refine EL.quick 7 [0, 1, 19] [(0, .int .i64 a951), (1, .int .i64 a952), (19, .bool (true))] (by kernel_rfl) ?_
        refine EL.done (by kernel_rfl) ?_
        refine EQ.to ?_
        refine EQ.keep [0, 1, 19] [(0, .int .i64 a951), (1, .int .i64 a952), (19, .bool (true))] (by kernel_rfl) ?_
        exact fun a ha => ⟨true, ha, (hS.re [] [] rfl (sub_self)), H⟩
      · rw [if_neg h1005] at H
        refine EL.keep [0, 1, 12] [(0, .int .i64 a951), (1, .int .i64 a952), (12, .bool (decide (a951 ≥ 16)))] (by kernel_rfl) ?_
        refine EL.as' [(0, .int .i64 a951), (1, .int .i64 a952), (12, .bool (false))] (by simp only [dec_f h1005, Bool.not_true, Bool.not_false]) ?_
        refine EL.quick 4 [0, 1, 16] [(0, .int .i64 a951), (1, .int .i64 a952), (16, .bool (decide (a952 < 0)))] (by kernel_rfl) ?_
        by_cases h1006 : a952 < 0
        · rw [if_pos h1006] at H
          refine EL.keep [0, 1, 16] [(0, .int .i64 a951), (1, .int .i64 a952), (16, .bool (decide (a952 < 0)))] (by kernel_rfl) ?_
          refine EL.as' [(0, .int .i64 a951), (1, .int .i64 a952), (16, .bool (true))] (by simp only [dec_t h1006, Bool.not_true, Bool.not_false]) ?_
          refine EL.quick 3 [0, 1, 19] [(0, .int .i64 a951), (1, .int .i64 a952), (19, .bool (true))] (by kernel_rfl) ?_
          refine EL.done (by kernel_rfl) ?_
          refine EQ.to ?_
          refine EQ.keep [0, 1, 19] [(0, .int .i64 a951), (1, .int .i64 a952), (19, .bool (true))] (by kernel_rfl) ?_
          exact fun a ha => ⟨true, ha, (hS.re [] [] rfl (sub_self)), H⟩
        · rw [if_neg h1006] at H
          refine EL.keep [0, 1, 16] [(0, .int .i64 a951), (1, .int .i64 a952), (16, .bool (decide (a952 < 0)))] (by kernel_rfl) ?_
          refine EL.as' [(0, .int .i64 a951), (1, .int .i64 a952), (16, .bool (false))] (by simp only [dec_f h1006, Bool.not_true, Bool.not_false]) ?_
          refine EL.quick 3 [0, 1, 19] [(0, .int .i64 a951), (1, .int .i64 a952), (19, .bool (decide (a952 ≥ 65536)))] (by kernel_rfl) ?_
          refine EL.done (by kernel_rfl) ?_
          refine EQ.to ?_
          refine EQ.keep [0, 1, 19] [(0, .int .i64 a951), (1, .int .i64 a952), (19, .bool (decide (a952 ≥ 65536)))] (by kernel_rfl) ?_
          exact fun a ha => ⟨decide (a952 ≥ 65536), ha, (hS.re [] [] rfl (sub_self)), H⟩
  · obtain ⟨x1002, ha, hS, H⟩ := hI
    rw [hj1003] at H
    (try dsimp only at H)
    refine EW.at ?_ a ha
    clear ha a
    refine EW.condP' (o := (.tmp 19)) (x := Cd52.r.l.r.l) (y := Cd52.r.l.r.r) (x1002) (by kernel_rfl) (by kernel_rfl) (fun h1007 => ?_) (fun h1007 => ?_)
    · rw [if_pos h1007] at H
      refine EW.seq (x := Cd52.r.l.r.l.l) (y := Cd52.r.l.r.l.r) (by kernel_rfl) ?_
      refine EW.region (id := 2) (ops := Cd52.r.l.r.l.l.ops) (by kernel_rfl) ?_
      refine EL.quick 2 [4, 5] [(4, .int .i32 0), (5, .bool (false))] (by kernel_rfl) ?_
      refine EL.done (by kernel_rfl) ?_
      refine EQ.code ?_
      refine EW.ret (by kernel_rfl) ?_
      refine EQ.ret ?_
      simp only [Option.some.injEq, Prod.mk.injEq] at H
      obtain ⟨rfl, rfl⟩ := H
      exact EQ.leave (.tuple #[.int .i32 0, .bool (false)]) (by kernel_rfl) ⟨_, rfl, rfl, (hS.re [] [] rfl (sub_self))⟩
    · rw [if_neg h1007] at H
      refine EW.skip (by kernel_rfl) ?_
      refine EQ.code ?_
      refine EW.seq (x := Cd52.r.r.l) (y := Cd52.r.r.r) (by kernel_rfl) ?_
      refine EW.region (id := 3) (ops := Cd52.r.r.l.ops) (by kernel_rfl) ?_
      refine EL.quick 7 [4, 5] [(4, .int .i32 (IntKind.i32.wrap (IntKind.i64.wrap ((IntKind.i64.wrap (a951 * 65536)) + a952)))), (5, .bool (true))] (by kernel_rfl) ?_
      obtain ⟨y1008, hy1008, H⟩ := lt_out H
      refine EL.keep [4, 5] [(4, .int .i32 (IntKind.i32.wrap (IntKind.i64.wrap ((IntKind.i64.wrap (a951 * 65536)) + a952)))), (5, .bool (true))] (by kernel_rfl) ?_
      refine EL.as' [(4, .int .i32 y1008), (5, .bool (true))] (by subst hy1008; rfl) ?_
      refine EL.done (by kernel_rfl) ?_
      refine EQ.code ?_
      refine EW.ret (by kernel_rfl) ?_
      simp only [Option.some.injEq, Prod.mk.injEq] at H
      obtain ⟨rfl, rfl⟩ := H
      exact EQ.leave (.tuple #[.int .i32 y1008, .bool (true)]) (by kernel_rfl) ⟨_, rfl, rfl, (hS.re [] [] rfl (sub_self))⟩

/-! ### (*confidant/confidantref12.Arena).Make: function 37 -/
def confidantref12_Arena_Make.f (K : Nat) (l873 : List Int) (l877 : List (List S69)) (a881 : Int) (a882 : Int) (a883 : Int) : Option (List (List S69) × Int × Bool) := lt (fun (x1082 : Bool) => (if x1082 = true then (some (l877, 0, false)) else (if 0 ≤ a881 then (if a881 < (l877.length : Int) then (b2 (confidantref9_Of.f K a881 ((l877.getD a881.toNat []).length : Int)) fun (t1111 : Int) (t1112 : Bool) => (lt ([(⟨a882, a883⟩ : S69)] : List S69) fun l1115 => (if ((l877.getD a881.toNat []).length + l1115.length) * 16 ≤ 140737488355328 then (lt ((l877.getD a881.toNat []) ++ l1115) fun l1117 => (lt (l877.set a881.toNat l1117) fun l1120 => (some (l1120, t1111, true)))) else none))) else none) else none))) fun j1083 => (if a881 < 0 then (j1083 true) else (if a881 ≥ (l877.length : Int) then (j1083 true) else (if 0 ≤ a881 then (if a881 < (l877.length : Int) then (if a881 < (l873.length : Int) then (j1083 (decide (((l877.getD a881.toNat []).length : Int) ≥ (l873.getD a881.toNat 0)))) else none) else none) else none)))
set_option maxRecDepth 100000 in
theorem confidantref12_Arena_Make.calls {K : Nat} {l873 : List Int} {l877 : List (List S69)} {a881 : Int} {a882 : Int} {a883 : Int} {g872 : Nat} {A874 : Option Addr} {C875 : Nat} {A878 : Option Addr} {C879 : Nat} {x1027 : List (List S69)} {x1030 : Int} {x1031 : Bool} {B w : World} {os : List Ass} {rs : List Ro} (H : confidantref12_Arena_Make.f K l873 l877 a881 a882 a883 = some (x1027, x1030, x1031)) (hS : St B w (Ass.box 75 g872 [.slice A874 l873.length C875, .slice A878 l877.length C879] :: Ass.own 3 (Kd.int .i64) A874 C875 l873 :: Ass.deep 76 69 kS69 A878 C879 l877 :: os) (rs)) :
    Calls Try.prog 37 [.pointer (some ⟨g872, 0, none⟩), .int .i64 a881, .int .i64 a882, .int .i32 a883].toArray w (fun en w' => ∃ v, en = .returned v ∧ ∃ A1028 : Option Addr, ∃ C1029 : Nat, v = .tuple #[.int .i32 x1030, .bool (x1031)] ∧ St B w' (Ass.box 75 g872 [.slice A874 l873.length C875, .slice A1028 x1027.length C1029] :: Ass.own 3 (Kd.int .i64) A874 C875 l873 :: Ass.deep 76 69 kS69 A1028 C1029 x1027 :: os) (rs)) := by
  unfold confidantref12_Arena_Make.f at H
  refine calls_of_EW (args := [.pointer (some ⟨g872, 0, none⟩), .int .i64 a881, .int .i64 a882, .int .i32 a883]) (c := Cd37) 73 Try.func37 (by kernel_rfl) (by kernel_rfl) (by kernel_rfl) ?_
  refine EW.seq (x := Cd37.l) (y := Cd37.r) (by kernel_rfl) ?_
  refine EW.region (id := 0) (ops := Cd37.l.ops) (by kernel_rfl) ?_
  refine EL.quick 2 [0, 1, 2, 3] [(0, .pointer (some ⟨g872, 0, none⟩)), (1, .int .i64 a881), (2, .int .i64 a882), (3, .int .i32 a883)] (by kernel_rfl) ?_
  refine EL.done (by kernel_rfl) ?_
  refine EQ.code ?_
  refine EW.seq (x := Cd37.r.l) (y := Cd37.r.r) (by kernel_rfl) ?_
  obtain ⟨j1083, hj1083, H⟩ := lt_out H
  refine EW.cut (x := Cd37.r.l.l) (y := Cd37.r.l.r) (fun a w => ∃ x1082 : Bool, Sat 73 [(0, .pointer (some ⟨g872, 0, none⟩)), (1, .int .i64 a881), (2, .int .i64 a882), (3, .int .i32 a883), (40, .bool (x1082))] a ∧ St B w (Ass.box 75 g872 [.slice A874 l873.length C875, .slice A878 l877.length C879] :: Ass.own 3 (Kd.int .i64) A874 C875 l873 :: Ass.deep 76 69 kS69 A878 C879 l877 :: os) (rs) ∧ j1083 x1082 = some (x1027, x1030, x1031)) (by kernel_rfl) ?_ (fun a w hI => ?_)
  · by_cases h1084 : a881 < 0
    · rw [if_pos h1084] at H
      have hS := hS.drew
      refine EW.draw (B := B) (id := 1) (ops := Cd37.r.l.l.ops) [Ass.box 75 g872 [.slice A874 l873.length C875, .slice A878 l877.length C879], Ass.own 3 (Kd.int .i64) A874 C875 l873, Ass.deep 76 69 kS69 A878 C879 l877] [] (by kernel_rfl) (by kernel_rfl) ?_
      have hN : Region.noSelect Cd37.r.l.l.ops = true := (by kernel_rfl)
      have hF : freeAll Cd37.r.l.l.ops = true := (by kernel_rfl)
      have hC : Core B [Ass.box 75 g872 [.slice A874 l873.length C875, .slice A878 l877.length C879], Ass.own 3 (Kd.int .i64) A874 C875 l873, Ass.deep 76 69 kS69 A878 C879 l877] [] _ := ⟨_, _, hS⟩
      refine ED.quick hN hF hC [0, 1, 2] [0, 1, 2, 3, 14] 26 [(0, .pointer (some ⟨g872, 0, none⟩)), (1, .int .i64 a881), (2, .int .i64 a882), (3, .int .i32 a883), (14, .bool (decide (a881 < 0)))] #[true, true, true, false, false, false, false, false, false, false, false, false, false, false, false, false, false, false, false, false, false, false, false, false, false, false, false, false, false] (by kernel_rfl) (by kernel_rfl) ?_
      refine ED.keep [0, 1, 2, 3, 14] [(0, .pointer (some ⟨g872, 0, none⟩)), (1, .int .i64 a881), (2, .int .i64 a882), (3, .int .i32 a883), (14, .bool (decide (a881 < 0)))] (by kernel_rfl) ?_
      refine ED.as' [(0, .pointer (some ⟨g872, 0, none⟩)), (1, .int .i64 a881), (2, .int .i64 a882), (3, .int .i32 a883), (14, .bool (true))] (by simp only [dec_t h1084, Bool.not_true, Bool.not_false]) ?_
      refine ED.quick hN hF hC [3, 4, 5, 6, 7, 8, 9, 10, 11, 12, 13, 14, 15, 16, 17, 18, 19, 20, 21, 22, 23, 24, 25, 26, 27, 28] [0, 1, 2, 3, 40] 0 [(0, .pointer (some ⟨g872, 0, none⟩)), (1, .int .i64 a881), (2, .int .i64 a882), (3, .int .i32 a883), (40, .bool (true))] #[true, true, true, true, true, true, true, true, true, true, true, true, true, true, true, true, true, true, true, true, true, true, true, true, true, true, true, true, true] (by kernel_rfl) (by kernel_rfl) ?_
      refine ED.done (by kernel_rfl) ?_
      refine EQ.to ?_
      refine EQ.keep [0, 1, 2, 3, 40] [(0, .pointer (some ⟨g872, 0, none⟩)), (1, .int .i64 a881), (2, .int .i64 a882), (3, .int .i32 a883), (40, .bool (true))] (by kernel_rfl) ?_
      exact fun a ha => ⟨true, ha, (hS.re [2, 2, 2] [] rfl (sub_self)), H⟩
    · rw [if_neg h1084] at H
      by_cases h1085 : a881 ≥ (l877.length : Int)
      · rw [if_pos h1085] at H
        have hS := hS.drew
        refine EW.draw (B := B) (id := 1) (ops := Cd37.r.l.l.ops) [Ass.box 75 g872 [.slice A874 l873.length C875, .slice A878 l877.length C879], Ass.own 3 (Kd.int .i64) A874 C875 l873, Ass.deep 76 69 kS69 A878 C879 l877] [] (by kernel_rfl) (by kernel_rfl) ?_
        have hN : Region.noSelect Cd37.r.l.l.ops = true := (by kernel_rfl)
        have hF : freeAll Cd37.r.l.l.ops = true := (by kernel_rfl)
        have hC : Core B [Ass.box 75 g872 [.slice A874 l873.length C875, .slice A878 l877.length C879], Ass.own 3 (Kd.int .i64) A874 C875 l873, Ass.deep 76 69 kS69 A878 C879 l877] [] _ := ⟨_, _, hS⟩
        refine ED.quick hN hF hC [0, 1, 2] [0, 1, 2, 3, 14] 26 [(0, .pointer (some ⟨g872, 0, none⟩)), (1, .int .i64 a881), (2, .int .i64 a882), (3, .int .i32 a883), (14, .bool (decide (a881 < 0)))] #[true, true, true, false, false, false, false, false, false, false, false, false, false, false, false, false, false, false, false, false, false, false, false, false, false, false, false, false, false] (by kernel_rfl) (by kernel_rfl) ?_
        refine ED.keep [0, 1, 2, 3, 14] [(0, .pointer (some ⟨g872, 0, none⟩)), (1, .int .i64 a881), (2, .int .i64 a882), (3, .int .i32 a883), (14, .bool (decide (a881 < 0)))] (by kernel_rfl) ?_
        refine ED.as' [(0, .pointer (some ⟨g872, 0, none⟩)), (1, .int .i64 a881), (2, .int .i64 a882), (3, .int .i32 a883), (14, .bool (false))] (by simp only [dec_f h1084, Bool.not_true, Bool.not_false]) ?_
        refine ED.quick hN hF hC [3, 4, 5, 6] [0, 1, 2, 3, 14, 15, 18] 22 [(0, .pointer (some ⟨g872, 0, none⟩)), (1, .int .i64 a881), (2, .int .i64 a882), (3, .int .i32 a883), (14, .bool (false)), (15, .int .i64 a881), (18, .pointer (some ⟨g872, 1, none⟩))] #[true, true, true, true, true, true, true, false, false, false, false, false, false, false, false, false, false, false, false, false, false, false, false, false, false, false, false, false, false] (by kernel_rfl) (by kernel_rfl) ?_
        refine ED.Y hN hF hC 7 21 #[true, true, true, true, true, true, true, true, false, false, false, false, false, false, false, false, false, false, false, false, false, false, false, false, false, false, false, false, false] (by kernel_rfl) (by kernel_rfl) rfl (fun _ _ _ hS => YO.loadBox hS 0 rfl 73 1 1 (.slice A878 l877.length C879) 19 (by kernel_rfl) (by kernel_rfl) (by kernel_rfl) (by kernel_rfl)) ?_
        refine ED.quick hN hF hC [8, 9, 10, 11] [0, 1, 2, 3, 23] 17 [(0, .pointer (some ⟨g872, 0, none⟩)), (1, .int .i64 a881), (2, .int .i64 a882), (3, .int .i32 a883), (23, .bool (decide (a881 ≥ (l877.length : Int))))] #[true, true, true, true, true, true, true, true, true, true, true, true, false, false, false, false, false, false, false, false, false, false, false, false, false, false, false, false, false] (by kernel_rfl) (by kernel_rfl) ?_
        refine ED.keep [0, 1, 2, 3, 23] [(0, .pointer (some ⟨g872, 0, none⟩)), (1, .int .i64 a881), (2, .int .i64 a882), (3, .int .i32 a883), (23, .bool (decide (a881 ≥ (l877.length : Int))))] (by kernel_rfl) ?_
        refine ED.as' [(0, .pointer (some ⟨g872, 0, none⟩)), (1, .int .i64 a881), (2, .int .i64 a882), (3, .int .i32 a883), (23, .bool (true))] (by simp only [dec_t h1085, Bool.not_true, Bool.not_false]) ?_
        refine ED.quick hN hF hC [12, 13, 14, 15, 16, 17, 18, 19, 20, 21, 22, 23, 24, 25, 26, 27, 28] [0, 1, 2, 3, 40] 0 [(0, .pointer (some ⟨g872, 0, none⟩)), (1, .int .i64 a881), (2, .int .i64 a882), (3, .int .i32 a883), (40, .bool (true))] #[true, true, true, true, true, true, true, true, true, true, true, true, true, true, true, true, true, true, true, true, true, true, true, true, true, true, true, true, true] (by kernel_rfl) (by kernel_rfl) ?_
        refine ED.done (by kernel_rfl) ?_
        refine EQ.to ?_
        refine EQ.keep [0, 1, 2, 3, 40] [(0, .pointer (some ⟨g872, 0, none⟩)), (1, .int .i64 a881), (2, .int .i64 a882), (3, .int .i32 a883), (40, .bool (true))] (by kernel_rfl) ?_
        exact fun a ha => ⟨true, ha, (hS.re [2, 2, 2] [] rfl (sub_self)), H⟩
      · rw [if_neg h1085] at H
        obtain ⟨h1086, H⟩ := ite_in H
        obtain ⟨h1087, H⟩ := ite_in H
        obtain ⟨ad1088, rfl⟩ := St.deep_some hS 2 rfl h1086 h1087
        obtain ⟨h1091, H⟩ := ite_in H
        obtain ⟨ad1092, rfl⟩ := St.rd_some hS (Rd.own 1 3 rfl) h1086 h1091
        have hS := hS.drew
        refine EW.draw (B := B) (id := 1) (ops := Cd37.r.l.l.ops) [Ass.box 75 g872 [.slice (some ad1092) l873.length C875, .slice (some ad1088) l877.length C879], Ass.own 3 (Kd.int .i64) (some ad1092) C875 l873] [] (by kernel_rfl) (by kernel_rfl) ?_
        have hN : Region.noSelect Cd37.r.l.l.ops = true := (by kernel_rfl)
        have hF : freeAll Cd37.r.l.l.ops = true := (by kernel_rfl)
        have hC : Core B [Ass.box 75 g872 [.slice (some ad1092) l873.length C875, .slice (some ad1088) l877.length C879], Ass.own 3 (Kd.int .i64) (some ad1092) C875 l873] [] _ := ⟨_, _, hS⟩
        refine ED.quick hN hF hC [0, 1, 2] [0, 1, 2, 3, 14] 26 [(0, .pointer (some ⟨g872, 0, none⟩)), (1, .int .i64 a881), (2, .int .i64 a882), (3, .int .i32 a883), (14, .bool (decide (a881 < 0)))] #[true, true, true, false, false, false, false, false, false, false, false, false, false, false, false, false, false, false, false, false, false, false, false, false, false, false, false, false, false] (by kernel_rfl) (by kernel_rfl) ?_
        refine ED.keep [0, 1, 2, 3, 14] [(0, .pointer (some ⟨g872, 0, none⟩)), (1, .int .i64 a881), (2, .int .i64 a882), (3, .int .i32 a883), (14, .bool (decide (a881 < 0)))] (by kernel_rfl) ?_
        refine ED.as' [(0, .pointer (some ⟨g872, 0, none⟩)), (1, .int .i64 a881), (2, .int .i64 a882), (3, .int .i32 a883), (14, .bool (false))] (by simp only [dec_f h1084, Bool.not_true, Bool.not_false]) ?_
        refine ED.quick hN hF hC [3, 4, 5, 6] [0, 1, 2, 3, 14, 15, 18] 22 [(0, .pointer (some ⟨g872, 0, none⟩)), (1, .int .i64 a881), (2, .int .i64 a882), (3, .int .i32 a883), (14, .bool (false)), (15, .int .i64 a881), (18, .pointer (some ⟨g872, 1, none⟩))] #[true, true, true, true, true, true, true, false, false, false, false, false, false, false, false, false, false, false, false, false, false, false, false, false, false, false, false, false, false] (by kernel_rfl) (by kernel_rfl) ?_
        refine ED.Y hN hF hC 7 21 #[true, true, true, true, true, true, true, true, false, false, false, false, false, false, false, false, false, false, false, false, false, false, false, false, false, false, false, false, false] (by kernel_rfl) (by kernel_rfl) rfl (fun _ _ _ hS => YO.loadBox hS 0 rfl 73 1 1 (.slice (some ad1088) l877.length C879) 19 (by kernel_rfl) (by kernel_rfl) (by kernel_rfl) (by kernel_rfl)) ?_
        refine ED.quick hN hF hC [8, 9, 10, 11] [0, 1, 2, 3, 23] 17 [(0, .pointer (some ⟨g872, 0, none⟩)), (1, .int .i64 a881), (2, .int .i64 a882), (3, .int .i32 a883), (23, .bool (decide (a881 ≥ (l877.length : Int))))] #[true, true, true, true, true, true, true, true, true, true, true, true, false, false, false, false, false, false, false, false, false, false, false, false, false, false, false, false, false] (by kernel_rfl) (by kernel_rfl) ?_
        refine ED.keep [0, 1, 2, 3, 23] [(0, .pointer (some ⟨g872, 0, none⟩)), (1, .int .i64 a881), (2, .int .i64 a882), (3, .int .i32 a883), (23, .bool (decide (a881 ≥ (l877.length : Int))))] (by kernel_rfl) ?_
        refine ED.as' [(0, .pointer (some ⟨g872, 0, none⟩)), (1, .int .i64 a881), (2, .int .i64 a882), (3, .int .i32 a883), (23, .bool (false))] (by simp only [dec_f h1085, Bool.not_true, Bool.not_false]) ?_
        refine ED.quick hN hF hC [12, 13, 14, 16, 20, 21, 22, 24] [0, 1, 2, 3, 23, 26, 28, 34, 36] 9 [(0, .pointer (some ⟨g872, 0, none⟩)), (1, .int .i64 a881), (2, .int .i64 a882), (3, .int .i32 a883), (23, .bool (false)), (26, .pointer (some ⟨g872, 1, none⟩)), (28, .int .i64 a881), (34, .pointer (some ⟨g872, 0, none⟩)), (36, .int .i64 a881)] #[true, true, true, true, true, true, true, true, true, true, true, true, true, true, true, false, true, false, false, false, true, true, true, false, true, false, false, false, false] (by kernel_rfl) (by kernel_rfl) ?_
        refine ED.Y hN hF hC 15 8 #[true, true, true, true, true, true, true, true, true, true, true, true, true, true, true, true, true, false, false, false, true, true, true, false, true, false, false, false, false] (by kernel_rfl) (by kernel_rfl) rfl (fun _ _ _ hS => YO.loadBox hS 0 rfl 73 1 1 (.slice (some ad1088) l877.length C879) 27 (by kernel_rfl) (by kernel_rfl) (by kernel_rfl) (by kernel_rfl)) ?_
        refine ED.Y hN hF hC 17 7 #[true, true, true, true, true, true, true, true, true, true, true, true, true, true, true, true, true, true, false, false, true, true, true, false, true, false, false, false, false] (by kernel_rfl) (by kernel_rfl) rfl (fun _ _ _ hS => YO.idx 73 1 ad1088 l877.length C879 .i64 a881 29 (by kernel_rfl) (by kernel_rfl) (by kernel_rfl) (by kernel_rfl) h1086 h1087) ?_
        refine ED.Y hN hF hC 23 6 #[true, true, true, true, true, true, true, true, true, true, true, true, true, true, true, true, true, true, false, false, true, true, true, true, true, false, false, false, false] (by kernel_rfl) (by kernel_rfl) rfl (fun _ _ _ hS => YO.loadBox hS 0 rfl 24 0 1 (.slice (some ad1092) l873.length C875) 35 (by kernel_rfl) (by kernel_rfl) (by kernel_rfl) (by kernel_rfl)) ?_
        refine ED.Y hN hF hC 25 5 #[true, true, true, true, true, true, true, true, true, true, true, true, true, true, true, true, true, true, false, false, true, true, true, true, true, true, false, false, false] (by kernel_rfl) (by kernel_rfl) rfl (fun _ _ _ hS => YO.idx 24 1 ad1092 l873.length C875 .i64 a881 37 (by kernel_rfl) (by kernel_rfl) (by kernel_rfl) (by kernel_rfl) h1086 h1091) ?_
        refine ED.Y hN hF hC 26 4 #[true, true, true, true, true, true, true, true, true, true, true, true, true, true, true, true, true, true, false, false, true, true, true, true, true, true, true, false, false] (by kernel_rfl) (by kernel_rfl) rfl (fun _ _ _ hS => YO.loadEl hS (Kd.int .i64) ad1092 C875 l873 (Rd.own 1 3 rfl) 0 (encI .i64) encI_of a881 h1086 h1091 3 1 0 1 rfl (.int .i64 (l873.getD a881.toNat 0)) 38 (by kernel_rfl) (by kernel_rfl) (by kernel_rfl) (by kernel_rfl)) ?_
        refine ED.one 18 3 #[true, true, true, true, true, true, true, true, true, true, true, true, true, true, true, true, true, true, true, false, true, true, true, true, true, true, true, false, false] (by kernel_rfl) (by kernel_rfl) (by kernel_rfl) (EO.openEl hS 2 ad1088 rfl a881 h1086 h1087 (fun A1095 C1096 => Ass.box 75 g872 [.slice (some ad1092) l873.length C875, .slice (some ad1088) l877.length C879] :: Ass.own 3 (Kd.int .i64) (some ad1092) C875 l873 :: Ass.holed 76 69 kS69 (some ad1088) C879 l877 a881.toNat (A1095, (l877.getD a881.toNat []).length, C1096) :: os) 76 30 (by kernel_rfl) (by kernel_rfl) (by kernel_rfl) (by kernel_rfl) (fun _ _ => rfl) ?_)
        intro A1095 C1096 hS
        have hC : Core B [Ass.box 75 g872 [.slice (some ad1092) l873.length C875, .slice (some ad1088) l877.length C879], Ass.own 3 (Kd.int .i64) (some ad1092) C875 l873] [] _ := ⟨_, _, hS.re [2, 2] [] rfl sub_self⟩
        refine ⟨hC, ?_⟩
        refine ED.quick hN hF hC [19, 27, 28] [0, 1, 2, 3, 40] 0 [(0, .pointer (some ⟨g872, 0, none⟩)), (1, .int .i64 a881), (2, .int .i64 a882), (3, .int .i32 a883), (40, .bool (decide (((l877.getD a881.toNat []).length : Int) ≥ (l873.getD a881.toNat 0))))] #[true, true, true, true, true, true, true, true, true, true, true, true, true, true, true, true, true, true, true, true, true, true, true, true, true, true, true, true, true] (by kernel_rfl) (by kernel_rfl) ?_
        refine ED.done (by kernel_rfl) ?_
        refine EQ.to ?_
        have hS := St.as (os' := Ass.box 75 g872 [.slice (some ad1092) l873.length C875, .slice (some ad1088) l877.length C879] :: Ass.own 3 (Kd.int .i64) (some ad1092) C875 l873 :: Ass.deep 76 69 kS69 (some ad1088) C879 l877 :: os) (St.close hS 0 2 rfl rfl rfl l877 (set_getD _ _)) rfl
        refine EQ.keep [0, 1, 2, 3, 40] [(0, .pointer (some ⟨g872, 0, none⟩)), (1, .int .i64 a881), (2, .int .i64 a882), (3, .int .i32 a883), (40, .bool (decide (((l877.getD a881.toNat []).length : Int) ≥ (l873.getD a881.toNat 0))))] (by kernel_rfl) ?_
        exact fun a ha => ⟨decide (((l877.getD a881.toNat []).length : Int) ≥ (l873.getD a881.toNat 0)), ha, (hS.re [2, 2, 2] [] rfl (sub_self)), H⟩
  · obtain ⟨x1082, ha, hS, H⟩ := hI
    rw [hj1083] at H
    (try dsimp only at H)
    refine EW.at ?_ a ha
    clear ha a
    refine EW.condP' (o := (.tmp 40)) (x := Cd37.r.l.r.l) (y := Cd37.r.l.r.r) (x1082) (by kernel_rfl) (by kernel_rfl) (fun h1097 => ?_) (fun h1097 => ?_)
    · rw [if_pos h1097] at H
      refine EW.seq (x := Cd37.r.l.r.l.l) (y := Cd37.r.l.r.l.r) (by kernel_rfl) ?_
      refine EW.region (id := 2) (ops := Cd37.r.l.r.l.l.ops) (by kernel_rfl) ?_
      refine EL.quick 2 [8, 9] [(8, .int .i32 0), (9, .bool (false))] (by kernel_rfl) ?_
      refine EL.done (by kernel_rfl) ?_
      refine EQ.code ?_
      refine EW.ret (by kernel_rfl) ?_
      refine EQ.ret ?_
      simp only [Option.some.injEq, Prod.mk.injEq] at H
      obtain ⟨rfl, rfl, rfl⟩ := H
      exact EQ.leave (.tuple #[.int .i32 0, .bool (false)]) (by kernel_rfl) ⟨_, rfl, A878, C879, rfl, (hS.re [2, 2, 2] [] rfl (sub_self))⟩
    · rw [if_neg h1097] at H
      refine EW.skip (by kernel_rfl) ?_
      refine EQ.code ?_
      refine EW.seq (x := Cd37.r.r.l) (y := Cd37.r.r.r) (by kernel_rfl) ?_
      refine EW.region (id := 3) (ops := Cd37.r.r.l.ops) (by kernel_rfl) ?_
      refine EL.quick 4 [0, 1, 2, 3, 42, 45] [(0, .pointer (some ⟨g872, 0, none⟩)), (1, .int .i64 a881), (2, .int .i64 a882), (3, .int .i32 a883), (42, .int .i64 a881), (45, .pointer (some ⟨g872, 1, none⟩))] (by kernel_rfl) ?_
      refine EL.of (EO.Y (YO.loadBox hS 0 rfl 73 1 1 (.slice A878 l877.length C879) 46 (by kernel_rfl) (by kernel_rfl) (by kernel_rfl) (by kernel_rfl)) ?_)
      refine EL.quick 1 [0, 1, 2, 3, 42, 46, 47] [(0, .pointer (some ⟨g872, 0, none⟩)), (1, .int .i64 a881), (2, .int .i64 a882), (3, .int .i32 a883), (42, .int .i64 a881), (46, .slice A878 l877.length C879), (47, .int .i64 a881)] (by kernel_rfl) ?_
      obtain ⟨h1106, H⟩ := ite_in H
      obtain ⟨h1107, H⟩ := ite_in H
      obtain ⟨ad1108, rfl⟩ := St.deep_some hS 2 rfl h1106 h1107
      refine EL.of (EO.Y (YO.idx 73 1 ad1108 l877.length C879 .i64 a881 48 (by kernel_rfl) (by kernel_rfl) (by kernel_rfl) (by kernel_rfl) h1106 h1107) ?_)
      refine EL.of (EO.openEl hS 2 ad1108 rfl a881 h1106 h1107 (fun A1109 C1110 => Ass.box 75 g872 [.slice A874 l873.length C875, .slice (some ad1108) l877.length C879] :: Ass.own 3 (Kd.int .i64) A874 C875 l873 :: Ass.holed 76 69 kS69 (some ad1108) C879 l877 a881.toNat (A1109, (l877.getD a881.toNat []).length, C1110) :: os) 76 49 (by kernel_rfl) (by kernel_rfl) (by kernel_rfl) (by kernel_rfl) (fun _ _ => rfl) ?_)
      intro A1109 C1110 hS
      refine EL.quick 1 [0, 1, 2, 3, 42, 50] [(0, .pointer (some ⟨g872, 0, none⟩)), (1, .int .i64 a881), (2, .int .i64 a882), (3, .int .i32 a883), (42, .int .i64 a881), (50, .int .i64 ((l877.getD a881.toNat []).length : Int))] (by kernel_rfl) ?_
      obtain ⟨t1111, t1112, hc1113, H⟩ := b2_out H
      refine EL.of (EO.callD 52 [.int .i64 a881, .int .i64 ((l877.getD a881.toNat []).length : Int)] _ 51 (by kernel_rfl) (by kernel_rfl) (by kernel_rfl) (confidantref9_Of.calls hc1113 hS) ?_)
      rintro v w ⟨rfl, hS⟩
      refine EL.quick 5 [0, 1, 2, 3, 10] [(0, .pointer (some ⟨g872, 0, none⟩)), (1, .int .i64 a881), (2, .int .i64 a882), (3, .int .i32 a883), (10, .int .i32 t1111)] (by kernel_rfl) ?_
      refine EL.done (by kernel_rfl) ?_
      refine EQ.code ?_
      refine EW.seq (x := Cd37.r.r.r.l) (y := Cd37.r.r.r.r) (by kernel_rfl) ?_
      obtain ⟨l1115, hl1115, H⟩ := lt_out H
      obtain ⟨h1116, H⟩ := ite_in H
      obtain ⟨l1117, hl1117, H⟩ := lt_out H
      obtain ⟨l1120, hl1120, H⟩ := lt_out H
      refine EW.meet (id := 4) (ops := Cd37.r.r.r.l.ops) (fun a w => ∃ A1160 : Option Addr, ∃ C1161 : Nat, Sat 73 [(10, .int .i32 t1111)] a ∧ St B w (Ass.own 69 kS69 A1160 C1161 l1115 :: Ass.box 75 g872 [.slice A874 l873.length C875, .slice (some ad1108) l1120.length C879] :: Ass.own 3 (Kd.int .i64) A874 C875 l873 :: Ass.deep 76 69 kS69 (some ad1108) C879 l1120 :: os) (rs)) (by kernel_rfl) ?_ (fun a w hI => ?_)
      · have hS := hS.drew
        refine EW.draw (B := B) (id := 4) (ops := Cd37.r.r.r.l.ops) [Ass.own 3 (Kd.int .i64) A874 C875 l873] [] (by kernel_rfl) (by kernel_rfl) ?_
        have hN : Region.noSelect Cd37.r.r.r.l.ops = true := (by kernel_rfl)
        have hF : freeAll Cd37.r.r.r.l.ops = true := (by kernel_rfl)
        have hC : Core B [Ass.own 3 (Kd.int .i64) A874 C875 l873] [] _ := ⟨_, _, hS.re [2] [] rfl sub_self⟩
        refine ED.quick hN hF hC [0, 1, 2, 4, 5, 6, 7, 9, 12, 13, 14] [10, 56, 58, 61, 63, 68] 8 [(10, .int .i32 t1111), (56, .pointer (some ⟨g872, 1, none⟩)), (58, .int .i64 a881), (61, .pointer (some ⟨g872, 1, none⟩)), (63, .int .i64 a881), (68, .agg #[.int .i64 a882, .int .i32 a883])] #[true, true, true, false, true, true, true, true, false, true, false, false, true, true, true, false, false, false, false] (by kernel_rfl) (by kernel_rfl) ?_
        refine ED.many 3 [8, 15] 7 (by kernel_rfl) (by kernel_rfl) (Each.cons ?_ (Each.cons ?_ (Each.cons ?_ Each.nil)))
        · refine EO.Y (YO.loadBox hS 1 rfl 73 1 1 (.slice (some ad1108) l877.length C879) 57 (by kernel_rfl) (by kernel_rfl) (by kernel_rfl) (by kernel_rfl)) ?_
          have hC : Core B [Ass.own 3 (Kd.int .i64) A874 C875 l873] [] _ := ⟨_, _, hS.re [2] [] rfl sub_self⟩
          refine ⟨hC, ?_⟩
          refine ED.at' #[true, true, true, true, true, true, true, true, false, true, false, false, true, true, true, false, false, false, false] (by kernel_rfl) ?_
          refine ED.two 8 15 6 (by kernel_rfl) (by kernel_rfl) ?_ ?_
          · refine EO.Y (YO.loadBox hS 1 rfl 73 1 1 (.slice (some ad1108) l877.length C879) 62 (by kernel_rfl) (by kernel_rfl) (by kernel_rfl) (by kernel_rfl)) ?_
            have hC : Core B [Ass.own 3 (Kd.int .i64) A874 C875 l873] [] _ := ⟨_, _, hS.re [2] [] rfl sub_self⟩
            refine ⟨hC, ?_⟩
            refine ED.at' #[true, true, true, true, true, true, true, true, true, true, false, false, true, true, true, false, false, false, false] (by kernel_rfl) ?_
            refine ED.Y hN hF hC 10 5 #[true, true, true, true, true, true, true, true, true, true, true, false, true, true, true, false, false, false, false] (by kernel_rfl) (by kernel_rfl) rfl (fun _ _ _ hS => YO.idx 73 1 ad1108 l877.length C879 .i64 a881 64 (by kernel_rfl) (by kernel_rfl) (by kernel_rfl) (by kernel_rfl) h1106 h1107) ?_
            refine ED.two 11 15 4 (by kernel_rfl) (by kernel_rfl) ?_ ?_
            · refine EO.Y (YO.loadHole hS 3 ad1108 (j := a881) rfl h1106 76 65 (by kernel_rfl) (by kernel_rfl) (by kernel_rfl) (by kernel_rfl)) ?_
              have hC : Core B [Ass.own 3 (Kd.int .i64) A874 C875 l873] [] _ := ⟨_, _, hS.re [2] [] rfl sub_self⟩
              refine ⟨hC, ?_⟩
              refine ED.at' #[true, true, true, true, true, true, true, true, true, true, true, true, true, true, true, false, false, false, false] (by kernel_rfl) ?_
              refine ED.one 15 3 #[true, true, true, true, true, true, true, true, true, true, true, true, true, true, true, true, false, false, false] (by kernel_rfl) (by kernel_rfl) (by kernel_rfl) (EO.lit hS kS69 69 76 1 #[(0, .agg #[.int .i64 a882, .int .i32 a883])] [.int .i64 a882, .int .i32 a883] l1115 69 (by kernel_rfl) (by kernel_rfl) (by kernel_rfl) (fun _ => (by kernel_rfl)) (by rw [hl1115]; rfl) (by kernel_rfl) (fun w G hr => (by rw [hl1115]; exact ⟨[.int .i64 a882, .int .i32 a883], [], rfl, ⟨[.int .i64 a882], [.int .i32 a883], rfl, rfl, ⟨[.int .i32 a883], [], rfl, rfl, rfl⟩⟩, rfl⟩)) ?_)
              intro g1162 w hS
              have hC : Core B [Ass.own 3 (Kd.int .i64) A874 C875 l873] [] _ := ⟨_, _, hS.re [3] [] rfl sub_self⟩
              refine ⟨hC, ?_⟩
              refine ED.one 16 2 #[true, true, true, true, true, true, true, true, true, true, true, true, true, true, true, true, true, false, false] (by kernel_rfl) (by kernel_rfl) (by kernel_rfl) (EO.append hS 76 76 69 16 1 kS69 A1109 C1110 (l877.getD a881.toNat []) rfl (some ⟨g1162, 0, none⟩) 1 l1115 (Rd.own 0 69 rfl) l1117 hl1117 (fun A1163 C1164 => Ass.own 69 kS69 (some ⟨g1162, 0, none⟩) 1 l1115 :: Ass.own 69 kS69 A1163 C1164 l1117 :: Ass.box 75 g872 [.slice A874 l873.length C875, .slice (some ad1108) l877.length C879] :: Ass.own 3 (Kd.int .i64) A874 C875 l873 :: Ass.holed 76 69 kS69 (some ad1108) C879 l877 a881.toNat (A1109, (l877.getD a881.toNat []).length, C1110) :: os) 70 (by kernel_rfl) (by kernel_rfl) (by kernel_rfl) (by kernel_rfl) h1116 (fun _ _ => rfl) ?_)
              intro A1163 C1164 w hS
              have hC : Core B [Ass.own 3 (Kd.int .i64) A874 C875 l873] [] _ := ⟨_, _, hS.re [3] [] rfl sub_self⟩
              refine ⟨hC, ?_⟩
              refine ED.Y hN hF hC 17 1 #[true, true, true, true, true, true, true, true, true, true, true, true, true, true, true, true, true, true, false] (by kernel_rfl) (by kernel_rfl) rfl (fun _ _ _ hS => YO.idx 73 1 ad1108 l877.length C879 .i64 a881 71 (by kernel_rfl) (by kernel_rfl) (by kernel_rfl) (by kernel_rfl) h1106 h1107) ?_
              refine ED.one 18 0 #[true, true, true, true, true, true, true, true, true, true, true, true, true, true, true, true, true, true, true] (by kernel_rfl) (by kernel_rfl) (by kernel_rfl) (EO.closeEl hS 1 3 ad1108 a881 rfl rfl h1106 l1120 hl1120 (Ass.own 69 kS69 (some ⟨g1162, 0, none⟩) 1 l1115 :: Ass.box 75 g872 [.slice A874 l873.length C875, .slice (some ad1108) l877.length C879] :: Ass.own 3 (Kd.int .i64) A874 C875 l873 :: Ass.deep 76 69 kS69 (some ad1108) C879 l1120 :: os) 76 (by kernel_rfl) (by kernel_rfl) (by kernel_rfl) (by kernel_rfl) rfl ?_)
              intro w hS
              have hS : St B w (Ass.own 69 kS69 (some ⟨g1162, 0, none⟩) 1 l1115 :: Ass.box 75 g872 [.slice A874 l873.length C875, .slice (some ad1108) l1120.length C879] :: Ass.own 3 (Kd.int .i64) A874 C875 l873 :: Ass.deep 76 69 kS69 (some ad1108) C879 l1120 :: os) (rs) := by simpa only [hl1120, List.length_set] using hS
              have hC : Core B [Ass.own 3 (Kd.int .i64) A874 C875 l873] [] _ := ⟨_, _, hS.re [2] [] rfl sub_self⟩
              refine ⟨hC, ?_⟩
              refine ED.keep [10, 56, 57, 58, 61, 62, 63, 64, 68, 69, 71] [(10, .int .i32 t1111), (56, .pointer (some ⟨g872, 1, none⟩)), (57, .slice (some ad1108) l877.length C879), (58, .int .i64 a881), (61, .pointer (some ⟨g872, 1, none⟩)), (62, .slice (some ad1108) l877.length C879), (63, .int .i64 a881), (64, .pointer (some ((ad1108.add (a881.toNat * 1)).add 0))), (68, .agg #[.int .i64 a882, .int .i32 a883]), (69, .slice (some ⟨g1162, 0, none⟩) l1115.length 1), (71, .pointer (some ((ad1108.add (a881.toNat * 1)).add 0)))] (by kernel_rfl) ?_
              refine ED.as' [(10, .int .i32 t1111), (56, .pointer (some ⟨g872, 1, none⟩)), (57, .slice (some ad1108) l1120.length C879), (58, .int .i64 a881), (61, .pointer (some ⟨g872, 1, none⟩)), (62, .slice (some ad1108) l1120.length C879), (63, .int .i64 a881), (64, .pointer (some ((ad1108.add (a881.toNat * 1)).add 0))), (68, .agg #[.int .i64 a882, .int .i32 a883]), (69, .slice (some ⟨g1162, 0, none⟩) l1115.length 1), (71, .pointer (some ((ad1108.add (a881.toNat * 1)).add 0)))] (by simp only [hl1120, List.length_set]) ?_
              refine ED.done (by kernel_rfl) ?_
              refine EQ.to ?_
              refine EQ.keep [10] [(10, .int .i32 t1111)] (by kernel_rfl) ?_
              exact fun a ha => ⟨(some ⟨g1162, 0, none⟩), 1, ha, (hS.re [3, 3, 3, 3] [] rfl (sub_self))⟩
            · refine EO.lit hS kS69 69 76 1 #[(0, .agg #[.int .i64 a882, .int .i32 a883])] [.int .i64 a882, .int .i32 a883] l1115 69 (by kernel_rfl) (by kernel_rfl) (by kernel_rfl) (fun _ => (by kernel_rfl)) (by rw [hl1115]; rfl) (by kernel_rfl) (fun w G hr => (by rw [hl1115]; exact ⟨[.int .i64 a882, .int .i32 a883], [], rfl, ⟨[.int .i64 a882], [.int .i32 a883], rfl, rfl, ⟨[.int .i32 a883], [], rfl, rfl, rfl⟩⟩, rfl⟩)) ?_
              intro g1165 w hS
              have hC : Core B [Ass.own 3 (Kd.int .i64) A874 C875 l873] [] _ := ⟨_, _, hS.re [3] [] rfl sub_self⟩
              refine ⟨hC, ?_⟩
              refine ED.at' #[true, true, true, true, true, true, true, true, true, true, true, false, true, true, true, true, false, false, false] (by kernel_rfl) ?_
              refine ED.one 11 3 #[true, true, true, true, true, true, true, true, true, true, true, true, true, true, true, true, false, false, false] (by kernel_rfl) (by kernel_rfl) (by kernel_rfl) (EO.Y (YO.loadHole hS 4 ad1108 (j := a881) rfl h1106 76 65 (by kernel_rfl) (by kernel_rfl) (by kernel_rfl) (by kernel_rfl)) ?_)
              have hC : Core B [Ass.own 3 (Kd.int .i64) A874 C875 l873] [] _ := ⟨_, _, hS.re [3] [] rfl sub_self⟩
              refine ⟨hC, ?_⟩
              refine ED.one 16 2 #[true, true, true, true, true, true, true, true, true, true, true, true, true, true, true, true, true, false, false] (by kernel_rfl) (by kernel_rfl) (by kernel_rfl) (EO.append hS 76 76 69 16 1 kS69 A1109 C1110 (l877.getD a881.toNat []) rfl (some ⟨g1165, 0, none⟩) 1 l1115 (Rd.own 0 69 rfl) l1117 hl1117 (fun A1166 C1167 => Ass.own 69 kS69 (some ⟨g1165, 0, none⟩) 1 l1115 :: Ass.own 69 kS69 A1166 C1167 l1117 :: Ass.box 75 g872 [.slice A874 l873.length C875, .slice (some ad1108) l877.length C879] :: Ass.own 3 (Kd.int .i64) A874 C875 l873 :: Ass.holed 76 69 kS69 (some ad1108) C879 l877 a881.toNat (A1109, (l877.getD a881.toNat []).length, C1110) :: os) 70 (by kernel_rfl) (by kernel_rfl) (by kernel_rfl) (by kernel_rfl) h1116 (fun _ _ => rfl) ?_)
              intro A1166 C1167 w hS
              have hC : Core B [Ass.own 3 (Kd.int .i64) A874 C875 l873] [] _ := ⟨_, _, hS.re [3] [] rfl sub_self⟩
              refine ⟨hC, ?_⟩
              refine ED.Y hN hF hC 17 1 #[true, true, true, true, true, true, true, true, true, true, true, true, true, true, true, true, true, true, false] (by kernel_rfl) (by kernel_rfl) rfl (fun _ _ _ hS => YO.idx 73 1 ad1108 l877.length C879 .i64 a881 71 (by kernel_rfl) (by kernel_rfl) (by kernel_rfl) (by kernel_rfl) h1106 h1107) ?_
              refine ED.one 18 0 #[true, true, true, true, true, true, true, true, true, true, true, true, true, true, true, true, true, true, true] (by kernel_rfl) (by kernel_rfl) (by kernel_rfl) (EO.closeEl hS 1 3 ad1108 a881 rfl rfl h1106 l1120 hl1120 (Ass.own 69 kS69 (some ⟨g1165, 0, none⟩) 1 l1115 :: Ass.box 75 g872 [.slice A874 l873.length C875, .slice (some ad1108) l877.length C879] :: Ass.own 3 (Kd.int .i64) A874 C875 l873 :: Ass.deep 76 69 kS69 (some ad1108) C879 l1120 :: os) 76 (by kernel_rfl) (by kernel_rfl) (by kernel_rfl) (by kernel_rfl) rfl ?_)
              intro w hS
              have hS : St B w (Ass.own 69 kS69 (some ⟨g1165, 0, none⟩) 1 l1115 :: Ass.box 75 g872 [.slice A874 l873.length C875, .slice (some ad1108) l1120.length C879] :: Ass.own 3 (Kd.int .i64) A874 C875 l873 :: Ass.deep 76 69 kS69 (some ad1108) C879 l1120 :: os) (rs) := by simpa only [hl1120, List.length_set] using hS
              have hC : Core B [Ass.own 3 (Kd.int .i64) A874 C875 l873] [] _ := ⟨_, _, hS.re [2] [] rfl sub_self⟩
              refine ⟨hC, ?_⟩
              refine ED.keep [10, 56, 57, 58, 61, 62, 63, 64, 68, 69, 71] [(10, .int .i32 t1111), (56, .pointer (some ⟨g872, 1, none⟩)), (57, .slice (some ad1108) l877.length C879), (58, .int .i64 a881), (61, .pointer (some ⟨g872, 1, none⟩)), (62, .slice (some ad1108) l877.length C879), (63, .int .i64 a881), (64, .pointer (some ((ad1108.add (a881.toNat * 1)).add 0))), (68, .agg #[.int .i64 a882, .int .i32 a883]), (69, .slice (some ⟨g1165, 0, none⟩) l1115.length 1), (71, .pointer (some ((ad1108.add (a881.toNat * 1)).add 0)))] (by kernel_rfl) ?_
              refine ED.as' [(10, .int .i32 t1111), (56, .pointer (some ⟨g872, 1, none⟩)), (57, .slice (some ad1108) l1120.length C879), (58, .int .i64 a881), (61, .pointer (some ⟨g872, 1, none⟩)), (62, .slice (some ad1108) l1120.length C879), (63, .int .i64 a881), (64, .pointer (some ((ad1108.add (a881.toNat * 1)).add 0))), (68, .agg #[.int .i64 a882, .int .i32 a883]), (69, .slice (some ⟨g1165, 0, none⟩) l1115.length 1), (71, .pointer (some ((ad1108.add (a881.toNat * 1)).add 0)))] (by simp only [hl1120, List.length_set]) ?_
              refine ED.done (by kernel_rfl) ?_
              refine EQ.to ?_
              refine EQ.keep [10] [(10, .int .i32 t1111)] (by kernel_rfl) ?_
              exact fun a ha => ⟨(some ⟨g1165, 0, none⟩), 1, ha, (hS.re [3, 3, 3, 3] [] rfl (sub_self))⟩
          · refine EO.lit hS kS69 69 76 1 #[(0, .agg #[.int .i64 a882, .int .i32 a883])] [.int .i64 a882, .int .i32 a883] l1115 69 (by kernel_rfl) (by kernel_rfl) (by kernel_rfl) (fun _ => (by kernel_rfl)) (by rw [hl1115]; rfl) (by kernel_rfl) (fun w G hr => (by rw [hl1115]; exact ⟨[.int .i64 a882, .int .i32 a883], [], rfl, ⟨[.int .i64 a882], [.int .i32 a883], rfl, rfl, ⟨[.int .i32 a883], [], rfl, rfl, rfl⟩⟩, rfl⟩)) ?_
            intro g1168 w hS
            have hC : Core B [Ass.own 3 (Kd.int .i64) A874 C875 l873] [] _ := ⟨_, _, hS.re [3] [] rfl sub_self⟩
            refine ⟨hC, ?_⟩
            refine ED.at' #[true, true, true, true, true, true, true, true, false, true, false, false, true, true, true, true, false, false, false] (by kernel_rfl) ?_
            refine ED.one 8 5 #[true, true, true, true, true, true, true, true, true, true, false, false, true, true, true, true, false, false, false] (by kernel_rfl) (by kernel_rfl) (by kernel_rfl) (EO.Y (YO.loadBox hS 2 rfl 73 1 1 (.slice (some ad1108) l877.length C879) 62 (by kernel_rfl) (by kernel_rfl) (by kernel_rfl) (by kernel_rfl)) ?_)
            have hC : Core B [Ass.own 3 (Kd.int .i64) A874 C875 l873] [] _ := ⟨_, _, hS.re [3] [] rfl sub_self⟩
            refine ⟨hC, ?_⟩
            refine ED.Y hN hF hC 10 4 #[true, true, true, true, true, true, true, true, true, true, true, false, true, true, true, true, false, false, false] (by kernel_rfl) (by kernel_rfl) rfl (fun _ _ _ hS => YO.idx 73 1 ad1108 l877.length C879 .i64 a881 64 (by kernel_rfl) (by kernel_rfl) (by kernel_rfl) (by kernel_rfl) h1106 h1107) ?_
            refine ED.one 11 3 #[true, true, true, true, true, true, true, true, true, true, true, true, true, true, true, true, false, false, false] (by kernel_rfl) (by kernel_rfl) (by kernel_rfl) (EO.Y (YO.loadHole hS 4 ad1108 (j := a881) rfl h1106 76 65 (by kernel_rfl) (by kernel_rfl) (by kernel_rfl) (by kernel_rfl)) ?_)
            have hC : Core B [Ass.own 3 (Kd.int .i64) A874 C875 l873] [] _ := ⟨_, _, hS.re [3] [] rfl sub_self⟩
            refine ⟨hC, ?_⟩
            refine ED.one 16 2 #[true, true, true, true, true, true, true, true, true, true, true, true, true, true, true, true, true, false, false] (by kernel_rfl) (by kernel_rfl) (by kernel_rfl) (EO.append hS 76 76 69 16 1 kS69 A1109 C1110 (l877.getD a881.toNat []) rfl (some ⟨g1168, 0, none⟩) 1 l1115 (Rd.own 0 69 rfl) l1117 hl1117 (fun A1169 C1170 => Ass.own 69 kS69 (some ⟨g1168, 0, none⟩) 1 l1115 :: Ass.own 69 kS69 A1169 C1170 l1117 :: Ass.box 75 g872 [.slice A874 l873.length C875, .slice (some ad1108) l877.length C879] :: Ass.own 3 (Kd.int .i64) A874 C875 l873 :: Ass.holed 76 69 kS69 (some ad1108) C879 l877 a881.toNat (A1109, (l877.getD a881.toNat []).length, C1110) :: os) 70 (by kernel_rfl) (by kernel_rfl) (by kernel_rfl) (by kernel_rfl) h1116 (fun _ _ => rfl) ?_)
            intro A1169 C1170 w hS
            have hC : Core B [Ass.own 3 (Kd.int .i64) A874 C875 l873] [] _ := ⟨_, _, hS.re [3] [] rfl sub_self⟩
            refine ⟨hC, ?_⟩
            refine ED.Y hN hF hC 17 1 #[true, true, true, true, true, true, true, true, true, true, true, true, true, true, true, true, true, true, false] (by kernel_rfl) (by kernel_rfl) rfl (fun _ _ _ hS => YO.idx 73 1 ad1108 l877.length C879 .i64 a881 71 (by kernel_rfl) (by kernel_rfl) (by kernel_rfl) (by kernel_rfl) h1106 h1107) ?_
            refine ED.one 18 0 #[true, true, true, true, true, true, true, true, true, true, true, true, true, true, true, true, true, true, true] (by kernel_rfl) (by kernel_rfl) (by kernel_rfl) (EO.closeEl hS 1 3 ad1108 a881 rfl rfl h1106 l1120 hl1120 (Ass.own 69 kS69 (some ⟨g1168, 0, none⟩) 1 l1115 :: Ass.box 75 g872 [.slice A874 l873.length C875, .slice (some ad1108) l877.length C879] :: Ass.own 3 (Kd.int .i64) A874 C875 l873 :: Ass.deep 76 69 kS69 (some ad1108) C879 l1120 :: os) 76 (by kernel_rfl) (by kernel_rfl) (by kernel_rfl) (by kernel_rfl) rfl ?_)
            intro w hS
            have hS : St B w (Ass.own 69 kS69 (some ⟨g1168, 0, none⟩) 1 l1115 :: Ass.box 75 g872 [.slice A874 l873.length C875, .slice (some ad1108) l1120.length C879] :: Ass.own 3 (Kd.int .i64) A874 C875 l873 :: Ass.deep 76 69 kS69 (some ad1108) C879 l1120 :: os) (rs) := by simpa only [hl1120, List.length_set] using hS
            have hC : Core B [Ass.own 3 (Kd.int .i64) A874 C875 l873] [] _ := ⟨_, _, hS.re [2] [] rfl sub_self⟩
            refine ⟨hC, ?_⟩
            refine ED.keep [10, 56, 57, 58, 61, 62, 63, 64, 68, 69, 71] [(10, .int .i32 t1111), (56, .pointer (some ⟨g872, 1, none⟩)), (57, .slice (some ad1108) l877.length C879), (58, .int .i64 a881), (61, .pointer (some ⟨g872, 1, none⟩)), (62, .slice (some ad1108) l877.length C879), (63, .int .i64 a881), (64, .pointer (some ((ad1108.add (a881.toNat * 1)).add 0))), (68, .agg #[.int .i64 a882, .int .i32 a883]), (69, .slice (some ⟨g1168, 0, none⟩) l1115.length 1), (71, .pointer (some ((ad1108.add (a881.toNat * 1)).add 0)))] (by kernel_rfl) ?_
            refine ED.as' [(10, .int .i32 t1111), (56, .pointer (some ⟨g872, 1, none⟩)), (57, .slice (some ad1108) l1120.length C879), (58, .int .i64 a881), (61, .pointer (some ⟨g872, 1, none⟩)), (62, .slice (some ad1108) l1120.length C879), (63, .int .i64 a881), (64, .pointer (some ((ad1108.add (a881.toNat * 1)).add 0))), (68, .agg #[.int .i64 a882, .int .i32 a883]), (69, .slice (some ⟨g1168, 0, none⟩) l1115.length 1), (71, .pointer (some ((ad1108.add (a881.toNat * 1)).add 0)))] (by simp only [hl1120, List.length_set]) ?_
            refine ED.done (by kernel_rfl) ?_
            refine EQ.to ?_
            refine EQ.keep [10] [(10, .int .i32 t1111)] (by kernel_rfl) ?_
            exact fun a ha => ⟨(some ⟨g1168, 0, none⟩), 1, ha, (hS.re [3, 3, 3, 3] [] rfl (sub_self))⟩
        · refine EO.Y (YO.loadBox hS 1 rfl 73 1 1 (.slice (some ad1108) l877.length C879) 62 (by kernel_rfl) (by kernel_rfl) (by kernel_rfl) (by kernel_rfl)) ?_
          have hC : Core B [Ass.own 3 (Kd.int .i64) A874 C875 l873] [] _ := ⟨_, _, hS.re [2] [] rfl sub_self⟩
          refine ⟨hC, ?_⟩
          refine ED.at' #[true, true, true, false, true, true, true, true, true, true, false, false, true, true, true, false, false, false, false] (by kernel_rfl) ?_
          refine ED.Y hN hF hC 10 6 #[true, true, true, false, true, true, true, true, true, true, true, false, true, true, true, false, false, false, false] (by kernel_rfl) (by kernel_rfl) rfl (fun _ _ _ hS => YO.idx 73 1 ad1108 l877.length C879 .i64 a881 64 (by kernel_rfl) (by kernel_rfl) (by kernel_rfl) (by kernel_rfl) h1106 h1107) ?_
          refine ED.many 3 [11, 15] 5 (by kernel_rfl) (by kernel_rfl) (Each.cons ?_ (Each.cons ?_ (Each.cons ?_ Each.nil)))
          · refine EO.Y (YO.loadBox hS 1 rfl 73 1 1 (.slice (some ad1108) l877.length C879) 57 (by kernel_rfl) (by kernel_rfl) (by kernel_rfl) (by kernel_rfl)) ?_
            have hC : Core B [Ass.own 3 (Kd.int .i64) A874 C875 l873] [] _ := ⟨_, _, hS.re [2] [] rfl sub_self⟩
            refine ⟨hC, ?_⟩
            refine ED.at' #[true, true, true, true, true, true, true, true, true, true, true, false, true, true, true, false, false, false, false] (by kernel_rfl) ?_
            refine ED.two 11 15 4 (by kernel_rfl) (by kernel_rfl) ?_ ?_
            · refine EO.Y (YO.loadHole hS 3 ad1108 (j := a881) rfl h1106 76 65 (by kernel_rfl) (by kernel_rfl) (by kernel_rfl) (by kernel_rfl)) ?_
              have hC : Core B [Ass.own 3 (Kd.int .i64) A874 C875 l873] [] _ := ⟨_, _, hS.re [2] [] rfl sub_self⟩
              refine ⟨hC, ?_⟩
              refine ED.at' #[true, true, true, true, true, true, true, true, true, true, true, true, true, true, true, false, false, false, false] (by kernel_rfl) ?_
              refine ED.one 15 3 #[true, true, true, true, true, true, true, true, true, true, true, true, true, true, true, true, false, false, false] (by kernel_rfl) (by kernel_rfl) (by kernel_rfl) (EO.lit hS kS69 69 76 1 #[(0, .agg #[.int .i64 a882, .int .i32 a883])] [.int .i64 a882, .int .i32 a883] l1115 69 (by kernel_rfl) (by kernel_rfl) (by kernel_rfl) (fun _ => (by kernel_rfl)) (by rw [hl1115]; rfl) (by kernel_rfl) (fun w G hr => (by rw [hl1115]; exact ⟨[.int .i64 a882, .int .i32 a883], [], rfl, ⟨[.int .i64 a882], [.int .i32 a883], rfl, rfl, ⟨[.int .i32 a883], [], rfl, rfl, rfl⟩⟩, rfl⟩)) ?_)
              intro g1171 w hS
              have hC : Core B [Ass.own 3 (Kd.int .i64) A874 C875 l873] [] _ := ⟨_, _, hS.re [3] [] rfl sub_self⟩
              refine ⟨hC, ?_⟩
              refine ED.one 16 2 #[true, true, true, true, true, true, true, true, true, true, true, true, true, true, true, true, true, false, false] (by kernel_rfl) (by kernel_rfl) (by kernel_rfl) (EO.append hS 76 76 69 16 1 kS69 A1109 C1110 (l877.getD a881.toNat []) rfl (some ⟨g1171, 0, none⟩) 1 l1115 (Rd.own 0 69 rfl) l1117 hl1117 (fun A1172 C1173 => Ass.own 69 kS69 (some ⟨g1171, 0, none⟩) 1 l1115 :: Ass.own 69 kS69 A1172 C1173 l1117 :: Ass.box 75 g872 [.slice A874 l873.length C875, .slice (some ad1108) l877.length C879] :: Ass.own 3 (Kd.int .i64) A874 C875 l873 :: Ass.holed 76 69 kS69 (some ad1108) C879 l877 a881.toNat (A1109, (l877.getD a881.toNat []).length, C1110) :: os) 70 (by kernel_rfl) (by kernel_rfl) (by kernel_rfl) (by kernel_rfl) h1116 (fun _ _ => rfl) ?_)
              intro A1172 C1173 w hS
              have hC : Core B [Ass.own 3 (Kd.int .i64) A874 C875 l873] [] _ := ⟨_, _, hS.re [3] [] rfl sub_self⟩
              refine ⟨hC, ?_⟩
              refine ED.Y hN hF hC 17 1 #[true, true, true, true, true, true, true, true, true, true, true, true, true, true, true, true, true, true, false] (by kernel_rfl) (by kernel_rfl) rfl (fun _ _ _ hS => YO.idx 73 1 ad1108 l877.length C879 .i64 a881 71 (by kernel_rfl) (by kernel_rfl) (by kernel_rfl) (by kernel_rfl) h1106 h1107) ?_
              refine ED.one 18 0 #[true, true, true, true, true, true, true, true, true, true, true, true, true, true, true, true, true, true, true] (by kernel_rfl) (by kernel_rfl) (by kernel_rfl) (EO.closeEl hS 1 3 ad1108 a881 rfl rfl h1106 l1120 hl1120 (Ass.own 69 kS69 (some ⟨g1171, 0, none⟩) 1 l1115 :: Ass.box 75 g872 [.slice A874 l873.length C875, .slice (some ad1108) l877.length C879] :: Ass.own 3 (Kd.int .i64) A874 C875 l873 :: Ass.deep 76 69 kS69 (some ad1108) C879 l1120 :: os) 76 (by kernel_rfl) (by kernel_rfl) (by kernel_rfl) (by kernel_rfl) rfl ?_)
              intro w hS
              have hS : St B w (Ass.own 69 kS69 (some ⟨g1171, 0, none⟩) 1 l1115 :: Ass.box 75 g872 [.slice A874 l873.length C875, .slice (some ad1108) l1120.length C879] :: Ass.own 3 (Kd.int .i64) A874 C875 l873 :: Ass.deep 76 69 kS69 (some ad1108) C879 l1120 :: os) (rs) := by simpa only [hl1120, List.length_set] using hS
              have hC : Core B [Ass.own 3 (Kd.int .i64) A874 C875 l873] [] _ := ⟨_, _, hS.re [2] [] rfl sub_self⟩
              refine ⟨hC, ?_⟩
              refine ED.keep [10, 56, 57, 58, 61, 62, 63, 64, 68, 69, 71] [(10, .int .i32 t1111), (56, .pointer (some ⟨g872, 1, none⟩)), (57, .slice (some ad1108) l877.length C879), (58, .int .i64 a881), (61, .pointer (some ⟨g872, 1, none⟩)), (62, .slice (some ad1108) l877.length C879), (63, .int .i64 a881), (64, .pointer (some ((ad1108.add (a881.toNat * 1)).add 0))), (68, .agg #[.int .i64 a882, .int .i32 a883]), (69, .slice (some ⟨g1171, 0, none⟩) l1115.length 1), (71, .pointer (some ((ad1108.add (a881.toNat * 1)).add 0)))] (by kernel_rfl) ?_
              refine ED.as' [(10, .int .i32 t1111), (56, .pointer (some ⟨g872, 1, none⟩)), (57, .slice (some ad1108) l1120.length C879), (58, .int .i64 a881), (61, .pointer (some ⟨g872, 1, none⟩)), (62, .slice (some ad1108) l1120.length C879), (63, .int .i64 a881), (64, .pointer (some ((ad1108.add (a881.toNat * 1)).add 0))), (68, .agg #[.int .i64 a882, .int .i32 a883]), (69, .slice (some ⟨g1171, 0, none⟩) l1115.length 1), (71, .pointer (some ((ad1108.add (a881.toNat * 1)).add 0)))] (by simp only [hl1120, List.length_set]) ?_
              refine ED.done (by kernel_rfl) ?_
              refine EQ.to ?_
              refine EQ.keep [10] [(10, .int .i32 t1111)] (by kernel_rfl) ?_
              exact fun a ha => ⟨(some ⟨g1171, 0, none⟩), 1, ha, (hS.re [3, 3, 3, 3] [] rfl (sub_self))⟩
            · refine EO.lit hS kS69 69 76 1 #[(0, .agg #[.int .i64 a882, .int .i32 a883])] [.int .i64 a882, .int .i32 a883] l1115 69 (by kernel_rfl) (by kernel_rfl) (by kernel_rfl) (fun _ => (by kernel_rfl)) (by rw [hl1115]; rfl) (by kernel_rfl) (fun w G hr => (by rw [hl1115]; exact ⟨[.int .i64 a882, .int .i32 a883], [], rfl, ⟨[.int .i64 a882], [.int .i32 a883], rfl, rfl, ⟨[.int .i32 a883], [], rfl, rfl, rfl⟩⟩, rfl⟩)) ?_
              intro g1174 w hS
              have hC : Core B [Ass.own 3 (Kd.int .i64) A874 C875 l873] [] _ := ⟨_, _, hS.re [3] [] rfl sub_self⟩
              refine ⟨hC, ?_⟩
              refine ED.at' #[true, true, true, true, true, true, true, true, true, true, true, false, true, true, true, true, false, false, false] (by kernel_rfl) ?_
              refine ED.one 11 3 #[true, true, true, true, true, true, true, true, true, true, true, true, true, true, true, true, false, false, false] (by kernel_rfl) (by kernel_rfl) (by kernel_rfl) (EO.Y (YO.loadHole hS 4 ad1108 (j := a881) rfl h1106 76 65 (by kernel_rfl) (by kernel_rfl) (by kernel_rfl) (by kernel_rfl)) ?_)
              have hC : Core B [Ass.own 3 (Kd.int .i64) A874 C875 l873] [] _ := ⟨_, _, hS.re [3] [] rfl sub_self⟩
              refine ⟨hC, ?_⟩
              refine ED.one 16 2 #[true, true, true, true, true, true, true, true, true, true, true, true, true, true, true, true, true, false, false] (by kernel_rfl) (by kernel_rfl) (by kernel_rfl) (EO.append hS 76 76 69 16 1 kS69 A1109 C1110 (l877.getD a881.toNat []) rfl (some ⟨g1174, 0, none⟩) 1 l1115 (Rd.own 0 69 rfl) l1117 hl1117 (fun A1175 C1176 => Ass.own 69 kS69 (some ⟨g1174, 0, none⟩) 1 l1115 :: Ass.own 69 kS69 A1175 C1176 l1117 :: Ass.box 75 g872 [.slice A874 l873.length C875, .slice (some ad1108) l877.length C879] :: Ass.own 3 (Kd.int .i64) A874 C875 l873 :: Ass.holed 76 69 kS69 (some ad1108) C879 l877 a881.toNat (A1109, (l877.getD a881.toNat []).length, C1110) :: os) 70 (by kernel_rfl) (by kernel_rfl) (by kernel_rfl) (by kernel_rfl) h1116 (fun _ _ => rfl) ?_)
              intro A1175 C1176 w hS
              have hC : Core B [Ass.own 3 (Kd.int .i64) A874 C875 l873] [] _ := ⟨_, _, hS.re [3] [] rfl sub_self⟩
              refine ⟨hC, ?_⟩
              refine ED.Y hN hF hC 17 1 #[true, true, true, true, true, true, true, true, true, true, true, true, true, true, true, true, true, true, false] (by kernel_rfl) (by kernel_rfl) rfl (fun _ _ _ hS => YO.idx 73 1 ad1108 l877.length C879 .i64 a881 71 (by kernel_rfl) (by kernel_rfl) (by kernel_rfl) (by kernel_rfl) h1106 h1107) ?_
              refine ED.one 18 0 #[true, true, true, true, true, true, true, true, true, true, true, true, true, true, true, true, true, true, true] (by kernel_rfl) (by kernel_rfl) (by kernel_rfl) (EO.closeEl hS 1 3 ad1108 a881 rfl rfl h1106 l1120 hl1120 (Ass.own 69 kS69 (some ⟨g1174, 0, none⟩) 1 l1115 :: Ass.box 75 g872 [.slice A874 l873.length C875, .slice (some ad1108) l877.length C879] :: Ass.own 3 (Kd.int .i64) A874 C875 l873 :: Ass.deep 76 69 kS69 (some ad1108) C879 l1120 :: os) 76 (by kernel_rfl) (by kernel_rfl) (by kernel_rfl) (by kernel_rfl) rfl ?_)
              intro w hS
              have hS : St B w (Ass.own 69 kS69 (some ⟨g1174, 0, none⟩) 1 l1115 :: Ass.box 75 g872 [.slice A874 l873.length C875, .slice (some ad1108) l1120.length C879] :: Ass.own 3 (Kd.int .i64) A874 C875 l873 :: Ass.deep 76 69 kS69 (some ad1108) C879 l1120 :: os) (rs) := by simpa only [hl1120, List.length_set] using hS
              have hC : Core B [Ass.own 3 (Kd.int .i64) A874 C875 l873] [] _ := ⟨_, _, hS.re [2] [] rfl sub_self⟩
              refine ⟨hC, ?_⟩
              refine ED.keep [10, 56, 57, 58, 61, 62, 63, 64, 68, 69, 71] [(10, .int .i32 t1111), (56, .pointer (some ⟨g872, 1, none⟩)), (57, .slice (some ad1108) l877.length C879), (58, .int .i64 a881), (61, .pointer (some ⟨g872, 1, none⟩)), (62, .slice (some ad1108) l877.length C879), (63, .int .i64 a881), (64, .pointer (some ((ad1108.add (a881.toNat * 1)).add 0))), (68, .agg #[.int .i64 a882, .int .i32 a883]), (69, .slice (some ⟨g1174, 0, none⟩) l1115.length 1), (71, .pointer (some ((ad1108.add (a881.toNat * 1)).add 0)))] (by kernel_rfl) ?_
              refine ED.as' [(10, .int .i32 t1111), (56, .pointer (some ⟨g872, 1, none⟩)), (57, .slice (some ad1108) l1120.length C879), (58, .int .i64 a881), (61, .pointer (some ⟨g872, 1, none⟩)), (62, .slice (some ad1108) l1120.length C879), (63, .int .i64 a881), (64, .pointer (some ((ad1108.add (a881.toNat * 1)).add 0))), (68, .agg #[.int .i64 a882, .int .i32 a883]), (69, .slice (some ⟨g1174, 0, none⟩) l1115.length 1), (71, .pointer (some ((ad1108.add (a881.toNat * 1)).add 0)))] (by simp only [hl1120, List.length_set]) ?_
              refine ED.done (by kernel_rfl) ?_
              refine EQ.to ?_
              refine EQ.keep [10] [(10, .int .i32 t1111)] (by kernel_rfl) ?_
              exact fun a ha => ⟨(some ⟨g1174, 0, none⟩), 1, ha, (hS.re [3, 3, 3, 3] [] rfl (sub_self))⟩
          · refine EO.Y (YO.loadHole hS 3 ad1108 (j := a881) rfl h1106 76 65 (by kernel_rfl) (by kernel_rfl) (by kernel_rfl) (by kernel_rfl)) ?_
            have hC : Core B [Ass.own 3 (Kd.int .i64) A874 C875 l873] [] _ := ⟨_, _, hS.re [2] [] rfl sub_self⟩
            refine ⟨hC, ?_⟩
            refine ED.at' #[true, true, true, false, true, true, true, true, true, true, true, true, true, true, true, false, false, false, false] (by kernel_rfl) ?_
            refine ED.two 3 15 4 (by kernel_rfl) (by kernel_rfl) ?_ ?_
            · refine EO.Y (YO.loadBox hS 1 rfl 73 1 1 (.slice (some ad1108) l877.length C879) 57 (by kernel_rfl) (by kernel_rfl) (by kernel_rfl) (by kernel_rfl)) ?_
              have hC : Core B [Ass.own 3 (Kd.int .i64) A874 C875 l873] [] _ := ⟨_, _, hS.re [2] [] rfl sub_self⟩
              refine ⟨hC, ?_⟩
              refine ED.at' #[true, true, true, true, true, true, true, true, true, true, true, true, true, true, true, false, false, false, false] (by kernel_rfl) ?_
              refine ED.one 15 3 #[true, true, true, true, true, true, true, true, true, true, true, true, true, true, true, true, false, false, false] (by kernel_rfl) (by kernel_rfl) (by kernel_rfl) (EO.lit hS kS69 69 76 1 #[(0, .agg #[.int .i64 a882, .int .i32 a883])] [.int .i64 a882, .int .i32 a883] l1115 69 (by kernel_rfl) (by kernel_rfl) (by kernel_rfl) (fun _ => (by kernel_rfl)) (by rw [hl1115]; rfl) (by kernel_rfl) (fun w G hr => (by rw [hl1115]; exact ⟨[.int .i64 a882, .int .i32 a883], [], rfl, ⟨[.int .i64 a882], [.int .i32 a883], rfl, rfl, ⟨[.int .i32 a883], [], rfl, rfl, rfl⟩⟩, rfl⟩)) ?_)
              intro g1177 w hS
              have hC : Core B [Ass.own 3 (Kd.int .i64) A874 C875 l873] [] _ := ⟨_, _, hS.re [3] [] rfl sub_self⟩
              refine ⟨hC, ?_⟩
              refine ED.one 16 2 #[true, true, true, true, true, true, true, true, true, true, true, true, true, true, true, true, true, false, false] (by kernel_rfl) (by kernel_rfl) (by kernel_rfl) (EO.append hS 76 76 69 16 1 kS69 A1109 C1110 (l877.getD a881.toNat []) rfl (some ⟨g1177, 0, none⟩) 1 l1115 (Rd.own 0 69 rfl) l1117 hl1117 (fun A1178 C1179 => Ass.own 69 kS69 (some ⟨g1177, 0, none⟩) 1 l1115 :: Ass.own 69 kS69 A1178 C1179 l1117 :: Ass.box 75 g872 [.slice A874 l873.length C875, .slice (some ad1108) l877.length C879] :: Ass.own 3 (Kd.int .i64) A874 C875 l873 :: Ass.holed 76 69 kS69 (some ad1108) C879 l877 a881.toNat (A1109, (l877.getD a881.toNat []).length, C1110) :: os) 70 (by kernel_rfl) (by kernel_rfl) (by kernel_rfl) (by kernel_rfl) h1116 (fun _ _ => rfl) ?_)
              intro A1178 C1179 w hS
              have hC : Core B [Ass.own 3 (Kd.int .i64) A874 C875 l873] [] _ := ⟨_, _, hS.re [3] [] rfl sub_self⟩
              refine ⟨hC, ?_⟩
              refine ED.Y hN hF hC 17 1 #[true, true, true, true, true, true, true, true, true, true, true, true, true, true, true, true, true, true, false] (by kernel_rfl) (by kernel_rfl) rfl (fun _ _ _ hS => YO.idx 73 1 ad1108 l877.length C879 .i64 a881 71 (by kernel_rfl) (by kernel_rfl) (by kernel_rfl) (by kernel_rfl) h1106 h1107) ?_
              refine ED.one 18 0 #[true, true, true, true, true, true, true, true, true, true, true, true, true, true, true, true, true, true, true] (by kernel_rfl) (by kernel_rfl) (by kernel_rfl) (EO.closeEl hS 1 3 ad1108 a881 rfl rfl h1106 l1120 hl1120 (Ass.own 69 kS69 (some ⟨g1177, 0, none⟩) 1 l1115 :: Ass.box 75 g872 [.slice A874 l873.length C875, .slice (some ad1108) l877.length C879] :: Ass.own 3 (Kd.int .i64) A874 C875 l873 :: Ass.deep 76 69 kS69 (some ad1108) C879 l1120 :: os) 76 (by kernel_rfl) (by kernel_rfl) (by kernel_rfl) (by kernel_rfl) rfl ?_)
              intro w hS
              have hS : St B w (Ass.own 69 kS69 (some ⟨g1177, 0, none⟩) 1 l1115 :: Ass.box 75 g872 [.slice A874 l873.length C875, .slice (some ad1108) l1120.length C879] :: Ass.own 3 (Kd.int .i64) A874 C875 l873 :: Ass.deep 76 69 kS69 (some ad1108) C879 l1120 :: os) (rs) := by simpa only [hl1120, List.length_set] using hS
              have hC : Core B [Ass.own 3 (Kd.int .i64) A874 C875 l873] [] _ := ⟨_, _, hS.re [2] [] rfl sub_self⟩
              refine ⟨hC, ?_⟩
              refine ED.keep [10, 56, 57, 58, 61, 62, 63, 64, 68, 69, 71] [(10, .int .i32 t1111), (56, .pointer (some ⟨g872, 1, none⟩)), (57, .slice (some ad1108) l877.length C879), (58, .int .i64 a881), (61, .pointer (some ⟨g872, 1, none⟩)), (62, .slice (some ad1108) l877.length C879), (63, .int .i64 a881), (64, .pointer (some ((ad1108.add (a881.toNat * 1)).add 0))), (68, .agg #[.int .i64 a882, .int .i32 a883]), (69, .slice (some ⟨g1177, 0, none⟩) l1115.length 1), (71, .pointer (some ((ad1108.add (a881.toNat * 1)).add 0)))] (by kernel_rfl) ?_
              refine ED.as' [(10, .int .i32 t1111), (56, .pointer (some ⟨g872, 1, none⟩)), (57, .slice (some ad1108) l1120.length C879), (58, .int .i64 a881), (61, .pointer (some ⟨g872, 1, none⟩)), (62, .slice (some ad1108) l1120.length C879), (63, .int .i64 a881), (64, .pointer (some ((ad1108.add (a881.toNat * 1)).add 0))), (68, .agg #[.int .i64 a882, .int .i32 a883]), (69, .slice (some ⟨g1177, 0, none⟩) l1115.length 1), (71, .pointer (some ((ad1108.add (a881.toNat * 1)).add 0)))] (by simp only [hl1120, List.length_set]) ?_
              refine ED.done (by kernel_rfl) ?_
              refine EQ.to ?_
              refine EQ.keep [10] [(10, .int .i32 t1111)] (by kernel_rfl) ?_
              exact fun a ha => ⟨(some ⟨g1177, 0, none⟩), 1, ha, (hS.re [3, 3, 3, 3] [] rfl (sub_self))⟩
            · refine EO.lit hS kS69 69 76 1 #[(0, .agg #[.int .i64 a882, .int .i32 a883])] [.int .i64 a882, .int .i32 a883] l1115 69 (by kernel_rfl) (by kernel_rfl) (by kernel_rfl) (fun _ => (by kernel_rfl)) (by rw [hl1115]; rfl) (by kernel_rfl) (fun w G hr => (by rw [hl1115]; exact ⟨[.int .i64 a882, .int .i32 a883], [], rfl, ⟨[.int .i64 a882], [.int .i32 a883], rfl, rfl, ⟨[.int .i32 a883], [], rfl, rfl, rfl⟩⟩, rfl⟩)) ?_
              intro g1180 w hS
              have hC : Core B [Ass.own 3 (Kd.int .i64) A874 C875 l873] [] _ := ⟨_, _, hS.re [3] [] rfl sub_self⟩
              refine ⟨hC, ?_⟩
              refine ED.at' #[true, true, true, false, true, true, true, true, true, true, true, true, true, true, true, true, false, false, false] (by kernel_rfl) ?_
              refine ED.two 3 16 3 (by kernel_rfl) (by kernel_rfl) ?_ ?_
              · refine EO.Y (YO.loadBox hS 2 rfl 73 1 1 (.slice (some ad1108) l877.length C879) 57 (by kernel_rfl) (by kernel_rfl) (by kernel_rfl) (by kernel_rfl)) ?_
                have hC : Core B [Ass.own 3 (Kd.int .i64) A874 C875 l873] [] _ := ⟨_, _, hS.re [3] [] rfl sub_self⟩
                refine ⟨hC, ?_⟩
                refine ED.at' #[true, true, true, true, true, true, true, true, true, true, true, true, true, true, true, true, false, false, false] (by kernel_rfl) ?_
                refine ED.one 16 2 #[true, true, true, true, true, true, true, true, true, true, true, true, true, true, true, true, true, false, false] (by kernel_rfl) (by kernel_rfl) (by kernel_rfl) (EO.append hS 76 76 69 16 1 kS69 A1109 C1110 (l877.getD a881.toNat []) rfl (some ⟨g1180, 0, none⟩) 1 l1115 (Rd.own 0 69 rfl) l1117 hl1117 (fun A1181 C1182 => Ass.own 69 kS69 (some ⟨g1180, 0, none⟩) 1 l1115 :: Ass.own 69 kS69 A1181 C1182 l1117 :: Ass.box 75 g872 [.slice A874 l873.length C875, .slice (some ad1108) l877.length C879] :: Ass.own 3 (Kd.int .i64) A874 C875 l873 :: Ass.holed 76 69 kS69 (some ad1108) C879 l877 a881.toNat (A1109, (l877.getD a881.toNat []).length, C1110) :: os) 70 (by kernel_rfl) (by kernel_rfl) (by kernel_rfl) (by kernel_rfl) h1116 (fun _ _ => rfl) ?_)
                intro A1181 C1182 w hS
                have hC : Core B [Ass.own 3 (Kd.int .i64) A874 C875 l873] [] _ := ⟨_, _, hS.re [3] [] rfl sub_self⟩
                refine ⟨hC, ?_⟩
                refine ED.Y hN hF hC 17 1 #[true, true, true, true, true, true, true, true, true, true, true, true, true, true, true, true, true, true, false] (by kernel_rfl) (by kernel_rfl) rfl (fun _ _ _ hS => YO.idx 73 1 ad1108 l877.length C879 .i64 a881 71 (by kernel_rfl) (by kernel_rfl) (by kernel_rfl) (by kernel_rfl) h1106 h1107) ?_
                refine ED.one 18 0 #[true, true, true, true, true, true, true, true, true, true, true, true, true, true, true, true, true, true, true] (by kernel_rfl) (by kernel_rfl) (by kernel_rfl) (EO.closeEl hS 1 3 ad1108 a881 rfl rfl h1106 l1120 hl1120 (Ass.own 69 kS69 (some ⟨g1180, 0, none⟩) 1 l1115 :: Ass.box 75 g872 [.slice A874 l873.length C875, .slice (some ad1108) l877.length C879] :: Ass.own 3 (Kd.int .i64) A874 C875 l873 :: Ass.deep 76 69 kS69 (some ad1108) C879 l1120 :: os) 76 (by kernel_rfl) (by kernel_rfl) (by kernel_rfl) (by kernel_rfl) rfl ?_)
                intro w hS
                have hS : St B w (Ass.own 69 kS69 (some ⟨g1180, 0, none⟩) 1 l1115 :: Ass.box 75 g872 [.slice A874 l873.length C875, .slice (some ad1108) l1120.length C879] :: Ass.own 3 (Kd.int .i64) A874 C875 l873 :: Ass.deep 76 69 kS69 (some ad1108) C879 l1120 :: os) (rs) := by simpa only [hl1120, List.length_set] using hS
                have hC : Core B [Ass.own 3 (Kd.int .i64) A874 C875 l873] [] _ := ⟨_, _, hS.re [2] [] rfl sub_self⟩
                refine ⟨hC, ?_⟩
                refine ED.keep [10, 56, 57, 58, 61, 62, 63, 64, 68, 69, 71] [(10, .int .i32 t1111), (56, .pointer (some ⟨g872, 1, none⟩)), (57, .slice (some ad1108) l877.length C879), (58, .int .i64 a881), (61, .pointer (some ⟨g872, 1, none⟩)), (62, .slice (some ad1108) l877.length C879), (63, .int .i64 a881), (64, .pointer (some ((ad1108.add (a881.toNat * 1)).add 0))), (68, .agg #[.int .i64 a882, .int .i32 a883]), (69, .slice (some ⟨g1180, 0, none⟩) l1115.length 1), (71, .pointer (some ((ad1108.add (a881.toNat * 1)).add 0)))] (by kernel_rfl) ?_
                refine ED.as' [(10, .int .i32 t1111), (56, .pointer (some ⟨g872, 1, none⟩)), (57, .slice (some ad1108) l1120.length C879), (58, .int .i64 a881), (61, .pointer (some ⟨g872, 1, none⟩)), (62, .slice (some ad1108) l1120.length C879), (63, .int .i64 a881), (64, .pointer (some ((ad1108.add (a881.toNat * 1)).add 0))), (68, .agg #[.int .i64 a882, .int .i32 a883]), (69, .slice (some ⟨g1180, 0, none⟩) l1115.length 1), (71, .pointer (some ((ad1108.add (a881.toNat * 1)).add 0)))] (by simp only [hl1120, List.length_set]) ?_
                refine ED.done (by kernel_rfl) ?_
                refine EQ.to ?_
                refine EQ.keep [10] [(10, .int .i32 t1111)] (by kernel_rfl) ?_
                exact fun a ha => ⟨(some ⟨g1180, 0, none⟩), 1, ha, (hS.re [3, 3, 3, 3] [] rfl (sub_self))⟩
              · refine EO.append hS 76 76 69 16 1 kS69 A1109 C1110 (l877.getD a881.toNat []) rfl (some ⟨g1180, 0, none⟩) 1 l1115 (Rd.own 0 69 rfl) l1117 hl1117 (fun A1183 C1184 => Ass.own 69 kS69 (some ⟨g1180, 0, none⟩) 1 l1115 :: Ass.own 69 kS69 A1183 C1184 l1117 :: Ass.box 75 g872 [.slice A874 l873.length C875, .slice (some ad1108) l877.length C879] :: Ass.own 3 (Kd.int .i64) A874 C875 l873 :: Ass.holed 76 69 kS69 (some ad1108) C879 l877 a881.toNat (A1109, (l877.getD a881.toNat []).length, C1110) :: os) 70 (by kernel_rfl) (by kernel_rfl) (by kernel_rfl) (by kernel_rfl) h1116 (fun _ _ => rfl) ?_
                intro A1183 C1184 w hS
                have hC : Core B [Ass.own 3 (Kd.int .i64) A874 C875 l873] [] _ := ⟨_, _, hS.re [3] [] rfl sub_self⟩
                refine ⟨hC, ?_⟩
                refine ED.at' #[true, true, true, false, true, true, true, true, true, true, true, true, true, true, true, true, true, false, false] (by kernel_rfl) ?_
                refine ED.one 3 2 #[true, true, true, true, true, true, true, true, true, true, true, true, true, true, true, true, true, false, false] (by kernel_rfl) (by kernel_rfl) (by kernel_rfl) (EO.Y (YO.loadBox hS 2 rfl 73 1 1 (.slice (some ad1108) l877.length C879) 57 (by kernel_rfl) (by kernel_rfl) (by kernel_rfl) (by kernel_rfl)) ?_)
                have hC : Core B [Ass.own 3 (Kd.int .i64) A874 C875 l873] [] _ := ⟨_, _, hS.re [3] [] rfl sub_self⟩
                refine ⟨hC, ?_⟩
                refine ED.Y hN hF hC 17 1 #[true, true, true, true, true, true, true, true, true, true, true, true, true, true, true, true, true, true, false] (by kernel_rfl) (by kernel_rfl) rfl (fun _ _ _ hS => YO.idx 73 1 ad1108 l877.length C879 .i64 a881 71 (by kernel_rfl) (by kernel_rfl) (by kernel_rfl) (by kernel_rfl) h1106 h1107) ?_
                refine ED.one 18 0 #[true, true, true, true, true, true, true, true, true, true, true, true, true, true, true, true, true, true, true] (by kernel_rfl) (by kernel_rfl) (by kernel_rfl) (EO.closeEl hS 1 3 ad1108 a881 rfl rfl h1106 l1120 hl1120 (Ass.own 69 kS69 (some ⟨g1180, 0, none⟩) 1 l1115 :: Ass.box 75 g872 [.slice A874 l873.length C875, .slice (some ad1108) l877.length C879] :: Ass.own 3 (Kd.int .i64) A874 C875 l873 :: Ass.deep 76 69 kS69 (some ad1108) C879 l1120 :: os) 76 (by kernel_rfl) (by kernel_rfl) (by kernel_rfl) (by kernel_rfl) rfl ?_)
                intro w hS
                have hS : St B w (Ass.own 69 kS69 (some ⟨g1180, 0, none⟩) 1 l1115 :: Ass.box 75 g872 [.slice A874 l873.length C875, .slice (some ad1108) l1120.length C879] :: Ass.own 3 (Kd.int .i64) A874 C875 l873 :: Ass.deep 76 69 kS69 (some ad1108) C879 l1120 :: os) (rs) := by simpa only [hl1120, List.length_set] using hS
                have hC : Core B [Ass.own 3 (Kd.int .i64) A874 C875 l873] [] _ := ⟨_, _, hS.re [2] [] rfl sub_self⟩
                refine ⟨hC, ?_⟩
                refine ED.keep [10, 56, 57, 58, 61, 62, 63, 64, 68, 69, 71] [(10, .int .i32 t1111), (56, .pointer (some ⟨g872, 1, none⟩)), (57, .slice (some ad1108) l877.length C879), (58, .int .i64 a881), (61, .pointer (some ⟨g872, 1, none⟩)), (62, .slice (some ad1108) l877.length C879), (63, .int .i64 a881), (64, .pointer (some ((ad1108.add (a881.toNat * 1)).add 0))), (68, .agg #[.int .i64 a882, .int .i32 a883]), (69, .slice (some ⟨g1180, 0, none⟩) l1115.length 1), (71, .pointer (some ((ad1108.add (a881.toNat * 1)).add 0)))] (by kernel_rfl) ?_
                refine ED.as' [(10, .int .i32 t1111), (56, .pointer (some ⟨g872, 1, none⟩)), (57, .slice (some ad1108) l1120.length C879), (58, .int .i64 a881), (61, .pointer (some ⟨g872, 1, none⟩)), (62, .slice (some ad1108) l1120.length C879), (63, .int .i64 a881), (64, .pointer (some ((ad1108.add (a881.toNat * 1)).add 0))), (68, .agg #[.int .i64 a882, .int .i32 a883]), (69, .slice (some ⟨g1180, 0, none⟩) l1115.length 1), (71, .pointer (some ((ad1108.add (a881.toNat * 1)).add 0)))] (by simp only [hl1120, List.length_set]) ?_
                refine ED.done (by kernel_rfl) ?_
                refine EQ.to ?_
                refine EQ.keep [10] [(10, .int .i32 t1111)] (by kernel_rfl) ?_
                exact fun a ha => ⟨(some ⟨g1180, 0, none⟩), 1, ha, (hS.re [3, 3, 3, 3] [] rfl (sub_self))⟩
          · refine EO.lit hS kS69 69 76 1 #[(0, .agg #[.int .i64 a882, .int .i32 a883])] [.int .i64 a882, .int .i32 a883] l1115 69 (by kernel_rfl) (by kernel_rfl) (by kernel_rfl) (fun _ => (by kernel_rfl)) (by rw [hl1115]; rfl) (by kernel_rfl) (fun w G hr => (by rw [hl1115]; exact ⟨[.int .i64 a882, .int .i32 a883], [], rfl, ⟨[.int .i64 a882], [.int .i32 a883], rfl, rfl, ⟨[.int .i32 a883], [], rfl, rfl, rfl⟩⟩, rfl⟩)) ?_
            intro g1185 w hS
            have hC : Core B [Ass.own 3 (Kd.int .i64) A874 C875 l873] [] _ := ⟨_, _, hS.re [3] [] rfl sub_self⟩
            refine ⟨hC, ?_⟩
            refine ED.at' #[true, true, true, false, true, true, true, true, true, true, true, false, true, true, true, true, false, false, false] (by kernel_rfl) ?_
            refine ED.two 3 11 4 (by kernel_rfl) (by kernel_rfl) ?_ ?_
            · refine EO.Y (YO.loadBox hS 2 rfl 73 1 1 (.slice (some ad1108) l877.length C879) 57 (by kernel_rfl) (by kernel_rfl) (by kernel_rfl) (by kernel_rfl)) ?_
              have hC : Core B [Ass.own 3 (Kd.int .i64) A874 C875 l873] [] _ := ⟨_, _, hS.re [3] [] rfl sub_self⟩
              refine ⟨hC, ?_⟩
              refine ED.at' #[true, true, true, true, true, true, true, true, true, true, true, false, true, true, true, true, false, false, false] (by kernel_rfl) ?_
              refine ED.one 11 3 #[true, true, true, true, true, true, true, true, true, true, true, true, true, true, true, true, false, false, false] (by kernel_rfl) (by kernel_rfl) (by kernel_rfl) (EO.Y (YO.loadHole hS 4 ad1108 (j := a881) rfl h1106 76 65 (by kernel_rfl) (by kernel_rfl) (by kernel_rfl) (by kernel_rfl)) ?_)
              have hC : Core B [Ass.own 3 (Kd.int .i64) A874 C875 l873] [] _ := ⟨_, _, hS.re [3] [] rfl sub_self⟩
              refine ⟨hC, ?_⟩
              refine ED.one 16 2 #[true, true, true, true, true, true, true, true, true, true, true, true, true, true, true, true, true, false, false] (by kernel_rfl) (by kernel_rfl) (by kernel_rfl) (EO.append hS 76 76 69 16 1 kS69 A1109 C1110 (l877.getD a881.toNat []) rfl (some ⟨g1185, 0, none⟩) 1 l1115 (Rd.own 0 69 rfl) l1117 hl1117 (fun A1186 C1187 => Ass.own 69 kS69 (some ⟨g1185, 0, none⟩) 1 l1115 :: Ass.own 69 kS69 A1186 C1187 l1117 :: Ass.box 75 g872 [.slice A874 l873.length C875, .slice (some ad1108) l877.length C879] :: Ass.own 3 (Kd.int .i64) A874 C875 l873 :: Ass.holed 76 69 kS69 (some ad1108) C879 l877 a881.toNat (A1109, (l877.getD a881.toNat []).length, C1110) :: os) 70 (by kernel_rfl) (by kernel_rfl) (by kernel_rfl) (by kernel_rfl) h1116 (fun _ _ => rfl) ?_)
              intro A1186 C1187 w hS
              have hC : Core B [Ass.own 3 (Kd.int .i64) A874 C875 l873] [] _ := ⟨_, _, hS.re [3] [] rfl sub_self⟩
              refine ⟨hC, ?_⟩
              refine ED.Y hN hF hC 17 1 #[true, true, true, true, true, true, true, true, true, true, true, true, true, true, true, true, true, true, false] (by kernel_rfl) (by kernel_rfl) rfl (fun _ _ _ hS => YO.idx 73 1 ad1108 l877.length C879 .i64 a881 71 (by kernel_rfl) (by kernel_rfl) (by kernel_rfl) (by kernel_rfl) h1106 h1107) ?_
              refine ED.one 18 0 #[true, true, true, true, true, true, true, true, true, true, true, true, true, true, true, true, true, true, true] (by kernel_rfl) (by kernel_rfl) (by kernel_rfl) (EO.closeEl hS 1 3 ad1108 a881 rfl rfl h1106 l1120 hl1120 (Ass.own 69 kS69 (some ⟨g1185, 0, none⟩) 1 l1115 :: Ass.box 75 g872 [.slice A874 l873.length C875, .slice (some ad1108) l877.length C879] :: Ass.own 3 (Kd.int .i64) A874 C875 l873 :: Ass.deep 76 69 kS69 (some ad1108) C879 l1120 :: os) 76 (by kernel_rfl) (by kernel_rfl) (by kernel_rfl) (by kernel_rfl) rfl ?_)
              intro w hS
              have hS : St B w (Ass.own 69 kS69 (some ⟨g1185, 0, none⟩) 1 l1115 :: Ass.box 75 g872 [.slice A874 l873.length C875, .slice (some ad1108) l1120.length C879] :: Ass.own 3 (Kd.int .i64) A874 C875 l873 :: Ass.deep 76 69 kS69 (some ad1108) C879 l1120 :: os) (rs) := by simpa only [hl1120, List.length_set] using hS
              have hC : Core B [Ass.own 3 (Kd.int .i64) A874 C875 l873] [] _ := ⟨_, _, hS.re [2] [] rfl sub_self⟩
              refine ⟨hC, ?_⟩
              refine ED.keep [10, 56, 57, 58, 61, 62, 63, 64, 68, 69, 71] [(10, .int .i32 t1111), (56, .pointer (some ⟨g872, 1, none⟩)), (57, .slice (some ad1108) l877.length C879), (58, .int .i64 a881), (61, .pointer (some ⟨g872, 1, none⟩)), (62, .slice (some ad1108) l877.length C879), (63, .int .i64 a881), (64, .pointer (some ((ad1108.add (a881.toNat * 1)).add 0))), (68, .agg #[.int .i64 a882, .int .i32 a883]), (69, .slice (some ⟨g1185, 0, none⟩) l1115.length 1), (71, .pointer (some ((ad1108.add (a881.toNat * 1)).add 0)))] (by kernel_rfl) ?_
              refine ED.as' [(10, .int .i32 t1111), (56, .pointer (some ⟨g872, 1, none⟩)), (57, .slice (some ad1108) l1120.length C879), (58, .int .i64 a881), (61, .pointer (some ⟨g872, 1, none⟩)), (62, .slice (some ad1108) l1120.length C879), (63, .int .i64 a881), (64, .pointer (some ((ad1108.add (a881.toNat * 1)).add 0))), (68, .agg #[.int .i64 a882, .int .i32 a883]), (69, .slice (some ⟨g1185, 0, none⟩) l1115.length 1), (71, .pointer (some ((ad1108.add (a881.toNat * 1)).add 0)))] (by simp only [hl1120, List.length_set]) ?_
              refine ED.done (by kernel_rfl) ?_
              refine EQ.to ?_
              refine EQ.keep [10] [(10, .int .i32 t1111)] (by kernel_rfl) ?_
              exact fun a ha => ⟨(some ⟨g1185, 0, none⟩), 1, ha, (hS.re [3, 3, 3, 3] [] rfl (sub_self))⟩
            · refine EO.Y (YO.loadHole hS 4 ad1108 (j := a881) rfl h1106 76 65 (by kernel_rfl) (by kernel_rfl) (by kernel_rfl) (by kernel_rfl)) ?_
              have hC : Core B [Ass.own 3 (Kd.int .i64) A874 C875 l873] [] _ := ⟨_, _, hS.re [3] [] rfl sub_self⟩
              refine ⟨hC, ?_⟩
              refine ED.at' #[true, true, true, false, true, true, true, true, true, true, true, true, true, true, true, true, false, false, false] (by kernel_rfl) ?_
              refine ED.two 3 16 3 (by kernel_rfl) (by kernel_rfl) ?_ ?_
              · refine EO.Y (YO.loadBox hS 2 rfl 73 1 1 (.slice (some ad1108) l877.length C879) 57 (by kernel_rfl) (by kernel_rfl) (by kernel_rfl) (by kernel_rfl)) ?_
                have hC : Core B [Ass.own 3 (Kd.int .i64) A874 C875 l873] [] _ := ⟨_, _, hS.re [3] [] rfl sub_self⟩
                refine ⟨hC, ?_⟩
                refine ED.at' #[true, true, true, true, true, true, true, true, true, true, true, true, true, true, true, true, false, false, false] (by kernel_rfl) ?_
                refine ED.one 16 2 #[true, true, true, true, true, true, true, true, true, true, true, true, true, true, true, true, true, false, false] (by kernel_rfl) (by kernel_rfl) (by kernel_rfl) (EO.append hS 76 76 69 16 1 kS69 A1109 C1110 (l877.getD a881.toNat []) rfl (some ⟨g1185, 0, none⟩) 1 l1115 (Rd.own 0 69 rfl) l1117 hl1117 (fun A1188 C1189 => Ass.own 69 kS69 (some ⟨g1185, 0, none⟩) 1 l1115 :: Ass.own 69 kS69 A1188 C1189 l1117 :: Ass.box 75 g872 [.slice A874 l873.length C875, .slice (some ad1108) l877.length C879] :: Ass.own 3 (Kd.int .i64) A874 C875 l873 :: Ass.holed 76 69 kS69 (some ad1108) C879 l877 a881.toNat (A1109, (l877.getD a881.toNat []).length, C1110) :: os) 70 (by kernel_rfl) (by kernel_rfl) (by kernel_rfl) (by kernel_rfl) h1116 (fun _ _ => rfl) ?_)
                intro A1188 C1189 w hS
                have hC : Core B [Ass.own 3 (Kd.int .i64) A874 C875 l873] [] _ := ⟨_, _, hS.re [3] [] rfl sub_self⟩
                refine ⟨hC, ?_⟩
                refine ED.Y hN hF hC 17 1 #[true, true, true, true, true, true, true, true, true, true, true, true, true, true, true, true, true, true, false] (by kernel_rfl) (by kernel_rfl) rfl (fun _ _ _ hS => YO.idx 73 1 ad1108 l877.length C879 .i64 a881 71 (by kernel_rfl) (by kernel_rfl) (by kernel_rfl) (by kernel_rfl) h1106 h1107) ?_
                refine ED.one 18 0 #[true, true, true, true, true, true, true, true, true, true, true, true, true, true, true, true, true, true, true] (by kernel_rfl) (by kernel_rfl) (by kernel_rfl) (EO.closeEl hS 1 3 ad1108 a881 rfl rfl h1106 l1120 hl1120 (Ass.own 69 kS69 (some ⟨g1185, 0, none⟩) 1 l1115 :: Ass.box 75 g872 [.slice A874 l873.length C875, .slice (some ad1108) l877.length C879] :: Ass.own 3 (Kd.int .i64) A874 C875 l873 :: Ass.deep 76 69 kS69 (some ad1108) C879 l1120 :: os) 76 (by kernel_rfl) (by kernel_rfl) (by kernel_rfl) (by kernel_rfl) rfl ?_)
                intro w hS
                have hS : St B w (Ass.own 69 kS69 (some ⟨g1185, 0, none⟩) 1 l1115 :: Ass.box 75 g872 [.slice A874 l873.length C875, .slice (some ad1108) l1120.length C879] :: Ass.own 3 (Kd.int .i64) A874 C875 l873 :: Ass.deep 76 69 kS69 (some ad1108) C879 l1120 :: os) (rs) := by simpa only [hl1120, List.length_set] using hS
                have hC : Core B [Ass.own 3 (Kd.int .i64) A874 C875 l873] [] _ := ⟨_, _, hS.re [2] [] rfl sub_self⟩
                refine ⟨hC, ?_⟩
                refine ED.keep [10, 56, 57, 58, 61, 62, 63, 64, 68, 69, 71] [(10, .int .i32 t1111), (56, .pointer (some ⟨g872, 1, none⟩)), (57, .slice (some ad1108) l877.length C879), (58, .int .i64 a881), (61, .pointer (some ⟨g872, 1, none⟩)), (62, .slice (some ad1108) l877.length C879), (63, .int .i64 a881), (64, .pointer (some ((ad1108.add (a881.toNat * 1)).add 0))), (68, .agg #[.int .i64 a882, .int .i32 a883]), (69, .slice (some ⟨g1185, 0, none⟩) l1115.length 1), (71, .pointer (some ((ad1108.add (a881.toNat * 1)).add 0)))] (by kernel_rfl) ?_
                refine ED.as' [(10, .int .i32 t1111), (56, .pointer (some ⟨g872, 1, none⟩)), (57, .slice (some ad1108) l1120.length C879), (58, .int .i64 a881), (61, .pointer (some ⟨g872, 1, none⟩)), (62, .slice (some ad1108) l1120.length C879), (63, .int .i64 a881), (64, .pointer (some ((ad1108.add (a881.toNat * 1)).add 0))), (68, .agg #[.int .i64 a882, .int .i32 a883]), (69, .slice (some ⟨g1185, 0, none⟩) l1115.length 1), (71, .pointer (some ((ad1108.add (a881.toNat * 1)).add 0)))] (by simp only [hl1120, List.length_set]) ?_
                refine ED.done (by kernel_rfl) ?_
                refine EQ.to ?_
                refine EQ.keep [10] [(10, .int .i32 t1111)] (by kernel_rfl) ?_
                exact fun a ha => ⟨(some ⟨g1185, 0, none⟩), 1, ha, (hS.re [3, 3, 3, 3] [] rfl (sub_self))⟩
              · refine EO.append hS 76 76 69 16 1 kS69 A1109 C1110 (l877.getD a881.toNat []) rfl (some ⟨g1185, 0, none⟩) 1 l1115 (Rd.own 0 69 rfl) l1117 hl1117 (fun A1190 C1191 => Ass.own 69 kS69 (some ⟨g1185, 0, none⟩) 1 l1115 :: Ass.own 69 kS69 A1190 C1191 l1117 :: Ass.box 75 g872 [.slice A874 l873.length C875, .slice (some ad1108) l877.length C879] :: Ass.own 3 (Kd.int .i64) A874 C875 l873 :: Ass.holed 76 69 kS69 (some ad1108) C879 l877 a881.toNat (A1109, (l877.getD a881.toNat []).length, C1110) :: os) 70 (by kernel_rfl) (by kernel_rfl) (by kernel_rfl) (by kernel_rfl) h1116 (fun _ _ => rfl) ?_
                intro A1190 C1191 w hS
                have hC : Core B [Ass.own 3 (Kd.int .i64) A874 C875 l873] [] _ := ⟨_, _, hS.re [3] [] rfl sub_self⟩
                refine ⟨hC, ?_⟩
                refine ED.at' #[true, true, true, false, true, true, true, true, true, true, true, true, true, true, true, true, true, false, false] (by kernel_rfl) ?_
                refine ED.one 3 2 #[true, true, true, true, true, true, true, true, true, true, true, true, true, true, true, true, true, false, false] (by kernel_rfl) (by kernel_rfl) (by kernel_rfl) (EO.Y (YO.loadBox hS 2 rfl 73 1 1 (.slice (some ad1108) l877.length C879) 57 (by kernel_rfl) (by kernel_rfl) (by kernel_rfl) (by kernel_rfl)) ?_)
                have hC : Core B [Ass.own 3 (Kd.int .i64) A874 C875 l873] [] _ := ⟨_, _, hS.re [3] [] rfl sub_self⟩
                refine ⟨hC, ?_⟩
                refine ED.Y hN hF hC 17 1 #[true, true, true, true, true, true, true, true, true, true, true, true, true, true, true, true, true, true, false] (by kernel_rfl) (by kernel_rfl) rfl (fun _ _ _ hS => YO.idx 73 1 ad1108 l877.length C879 .i64 a881 71 (by kernel_rfl) (by kernel_rfl) (by kernel_rfl) (by kernel_rfl) h1106 h1107) ?_
                refine ED.one 18 0 #[true, true, true, true, true, true, true, true, true, true, true, true, true, true, true, true, true, true, true] (by kernel_rfl) (by kernel_rfl) (by kernel_rfl) (EO.closeEl hS 1 3 ad1108 a881 rfl rfl h1106 l1120 hl1120 (Ass.own 69 kS69 (some ⟨g1185, 0, none⟩) 1 l1115 :: Ass.box 75 g872 [.slice A874 l873.length C875, .slice (some ad1108) l877.length C879] :: Ass.own 3 (Kd.int .i64) A874 C875 l873 :: Ass.deep 76 69 kS69 (some ad1108) C879 l1120 :: os) 76 (by kernel_rfl) (by kernel_rfl) (by kernel_rfl) (by kernel_rfl) rfl ?_)
                intro w hS
                have hS : St B w (Ass.own 69 kS69 (some ⟨g1185, 0, none⟩) 1 l1115 :: Ass.box 75 g872 [.slice A874 l873.length C875, .slice (some ad1108) l1120.length C879] :: Ass.own 3 (Kd.int .i64) A874 C875 l873 :: Ass.deep 76 69 kS69 (some ad1108) C879 l1120 :: os) (rs) := by simpa only [hl1120, List.length_set] using hS
                have hC : Core B [Ass.own 3 (Kd.int .i64) A874 C875 l873] [] _ := ⟨_, _, hS.re [2] [] rfl sub_self⟩
                refine ⟨hC, ?_⟩
                refine ED.keep [10, 56, 57, 58, 61, 62, 63, 64, 68, 69, 71] [(10, .int .i32 t1111), (56, .pointer (some ⟨g872, 1, none⟩)), (57, .slice (some ad1108) l877.length C879), (58, .int .i64 a881), (61, .pointer (some ⟨g872, 1, none⟩)), (62, .slice (some ad1108) l877.length C879), (63, .int .i64 a881), (64, .pointer (some ((ad1108.add (a881.toNat * 1)).add 0))), (68, .agg #[.int .i64 a882, .int .i32 a883]), (69, .slice (some ⟨g1185, 0, none⟩) l1115.length 1), (71, .pointer (some ((ad1108.add (a881.toNat * 1)).add 0)))] (by kernel_rfl) ?_
                refine ED.as' [(10, .int .i32 t1111), (56, .pointer (some ⟨g872, 1, none⟩)), (57, .slice (some ad1108) l1120.length C879), (58, .int .i64 a881), (61, .pointer (some ⟨g872, 1, none⟩)), (62, .slice (some ad1108) l1120.length C879), (63, .int .i64 a881), (64, .pointer (some ((ad1108.add (a881.toNat * 1)).add 0))), (68, .agg #[.int .i64 a882, .int .i32 a883]), (69, .slice (some ⟨g1185, 0, none⟩) l1115.length 1), (71, .pointer (some ((ad1108.add (a881.toNat * 1)).add 0)))] (by simp only [hl1120, List.length_set]) ?_
                refine ED.done (by kernel_rfl) ?_
                refine EQ.to ?_
                refine EQ.keep [10] [(10, .int .i32 t1111)] (by kernel_rfl) ?_
                exact fun a ha => ⟨(some ⟨g1185, 0, none⟩), 1, ha, (hS.re [3, 3, 3, 3] [] rfl (sub_self))⟩
        · refine EO.lit hS kS69 69 76 1 #[(0, .agg #[.int .i64 a882, .int .i32 a883])] [.int .i64 a882, .int .i32 a883] l1115 69 (by kernel_rfl) (by kernel_rfl) (by kernel_rfl) (fun _ => (by kernel_rfl)) (by rw [hl1115]; rfl) (by kernel_rfl) (fun w G hr => (by rw [hl1115]; exact ⟨[.int .i64 a882, .int .i32 a883], [], rfl, ⟨[.int .i64 a882], [.int .i32 a883], rfl, rfl, ⟨[.int .i32 a883], [], rfl, rfl, rfl⟩⟩, rfl⟩)) ?_
          intro g1192 w hS
          have hC : Core B [Ass.own 3 (Kd.int .i64) A874 C875 l873] [] _ := ⟨_, _, hS.re [3] [] rfl sub_self⟩
          refine ⟨hC, ?_⟩
          refine ED.at' #[true, true, true, false, true, true, true, true, false, true, false, false, true, true, true, true, false, false, false] (by kernel_rfl) ?_
          refine ED.two 3 8 6 (by kernel_rfl) (by kernel_rfl) ?_ ?_
          · refine EO.Y (YO.loadBox hS 2 rfl 73 1 1 (.slice (some ad1108) l877.length C879) 57 (by kernel_rfl) (by kernel_rfl) (by kernel_rfl) (by kernel_rfl)) ?_
            have hC : Core B [Ass.own 3 (Kd.int .i64) A874 C875 l873] [] _ := ⟨_, _, hS.re [3] [] rfl sub_self⟩
            refine ⟨hC, ?_⟩
            refine ED.at' #[true, true, true, true, true, true, true, true, false, true, false, false, true, true, true, true, false, false, false] (by kernel_rfl) ?_
            refine ED.one 8 5 #[true, true, true, true, true, true, true, true, true, true, false, false, true, true, true, true, false, false, false] (by kernel_rfl) (by kernel_rfl) (by kernel_rfl) (EO.Y (YO.loadBox hS 2 rfl 73 1 1 (.slice (some ad1108) l877.length C879) 62 (by kernel_rfl) (by kernel_rfl) (by kernel_rfl) (by kernel_rfl)) ?_)
            have hC : Core B [Ass.own 3 (Kd.int .i64) A874 C875 l873] [] _ := ⟨_, _, hS.re [3] [] rfl sub_self⟩
            refine ⟨hC, ?_⟩
            refine ED.Y hN hF hC 10 4 #[true, true, true, true, true, true, true, true, true, true, true, false, true, true, true, true, false, false, false] (by kernel_rfl) (by kernel_rfl) rfl (fun _ _ _ hS => YO.idx 73 1 ad1108 l877.length C879 .i64 a881 64 (by kernel_rfl) (by kernel_rfl) (by kernel_rfl) (by kernel_rfl) h1106 h1107) ?_
            refine ED.one 11 3 #[true, true, true, true, true, true, true, true, true, true, true, true, true, true, true, true, false, false, false] (by kernel_rfl) (by kernel_rfl) (by kernel_rfl) (EO.Y (YO.loadHole hS 4 ad1108 (j := a881) rfl h1106 76 65 (by kernel_rfl) (by kernel_rfl) (by kernel_rfl) (by kernel_rfl)) ?_)
            have hC : Core B [Ass.own 3 (Kd.int .i64) A874 C875 l873] [] _ := ⟨_, _, hS.re [3] [] rfl sub_self⟩
            refine ⟨hC, ?_⟩
            refine ED.one 16 2 #[true, true, true, true, true, true, true, true, true, true, true, true, true, true, true, true, true, false, false] (by kernel_rfl) (by kernel_rfl) (by kernel_rfl) (EO.append hS 76 76 69 16 1 kS69 A1109 C1110 (l877.getD a881.toNat []) rfl (some ⟨g1192, 0, none⟩) 1 l1115 (Rd.own 0 69 rfl) l1117 hl1117 (fun A1193 C1194 => Ass.own 69 kS69 (some ⟨g1192, 0, none⟩) 1 l1115 :: Ass.own 69 kS69 A1193 C1194 l1117 :: Ass.box 75 g872 [.slice A874 l873.length C875, .slice (some ad1108) l877.length C879] :: Ass.own 3 (Kd.int .i64) A874 C875 l873 :: Ass.holed 76 69 kS69 (some ad1108) C879 l877 a881.toNat (A1109, (l877.getD a881.toNat []).length, C1110) :: os) 70 (by kernel_rfl) (by kernel_rfl) (by kernel_rfl) (by kernel_rfl) h1116 (fun _ _ => rfl) ?_)
            intro A1193 C1194 w hS
            have hC : Core B [Ass.own 3 (Kd.int .i64) A874 C875 l873] [] _ := ⟨_, _, hS.re [3] [] rfl sub_self⟩
            refine ⟨hC, ?_⟩
            refine ED.Y hN hF hC 17 1 #[true, true, true, true, true, true, true, true, true, true, true, true, true, true, true, true, true, true, false] (by kernel_rfl) (by kernel_rfl) rfl (fun _ _ _ hS => YO.idx 73 1 ad1108 l877.length C879 .i64 a881 71 (by kernel_rfl) (by kernel_rfl) (by kernel_rfl) (by kernel_rfl) h1106 h1107) ?_
            refine ED.one 18 0 #[true, true, true, true, true, true, true, true, true, true, true, true, true, true, true, true, true, true, true] (by kernel_rfl) (by kernel_rfl) (by kernel_rfl) (EO.closeEl hS 1 3 ad1108 a881 rfl rfl h1106 l1120 hl1120 (Ass.own 69 kS69 (some ⟨g1192, 0, none⟩) 1 l1115 :: Ass.box 75 g872 [.slice A874 l873.length C875, .slice (some ad1108) l877.length C879] :: Ass.own 3 (Kd.int .i64) A874 C875 l873 :: Ass.deep 76 69 kS69 (some ad1108) C879 l1120 :: os) 76 (by kernel_rfl) (by kernel_rfl) (by kernel_rfl) (by kernel_rfl) rfl ?_)
            intro w hS
            have hS : St B w (Ass.own 69 kS69 (some ⟨g1192, 0, none⟩) 1 l1115 :: Ass.box 75 g872 [.slice A874 l873.length C875, .slice (some ad1108) l1120.length C879] :: Ass.own 3 (Kd.int .i64) A874 C875 l873 :: Ass.deep 76 69 kS69 (some ad1108) C879 l1120 :: os) (rs) := by simpa only [hl1120, List.length_set] using hS
            have hC : Core B [Ass.own 3 (Kd.int .i64) A874 C875 l873] [] _ := ⟨_, _, hS.re [2] [] rfl sub_self⟩
            refine ⟨hC, ?_⟩
            refine ED.keep [10, 56, 57, 58, 61, 62, 63, 64, 68, 69, 71] [(10, .int .i32 t1111), (56, .pointer (some ⟨g872, 1, none⟩)), (57, .slice (some ad1108) l877.length C879), (58, .int .i64 a881), (61, .pointer (some ⟨g872, 1, none⟩)), (62, .slice (some ad1108) l877.length C879), (63, .int .i64 a881), (64, .pointer (some ((ad1108.add (a881.toNat * 1)).add 0))), (68, .agg #[.int .i64 a882, .int .i32 a883]), (69, .slice (some ⟨g1192, 0, none⟩) l1115.length 1), (71, .pointer (some ((ad1108.add (a881.toNat * 1)).add 0)))] (by kernel_rfl) ?_
            refine ED.as' [(10, .int .i32 t1111), (56, .pointer (some ⟨g872, 1, none⟩)), (57, .slice (some ad1108) l1120.length C879), (58, .int .i64 a881), (61, .pointer (some ⟨g872, 1, none⟩)), (62, .slice (some ad1108) l1120.length C879), (63, .int .i64 a881), (64, .pointer (some ((ad1108.add (a881.toNat * 1)).add 0))), (68, .agg #[.int .i64 a882, .int .i32 a883]), (69, .slice (some ⟨g1192, 0, none⟩) l1115.length 1), (71, .pointer (some ((ad1108.add (a881.toNat * 1)).add 0)))] (by simp only [hl1120, List.length_set]) ?_
            refine ED.done (by kernel_rfl) ?_
            refine EQ.to ?_
            refine EQ.keep [10] [(10, .int .i32 t1111)] (by kernel_rfl) ?_
            exact fun a ha => ⟨(some ⟨g1192, 0, none⟩), 1, ha, (hS.re [3, 3, 3, 3] [] rfl (sub_self))⟩
          · refine EO.Y (YO.loadBox hS 2 rfl 73 1 1 (.slice (some ad1108) l877.length C879) 62 (by kernel_rfl) (by kernel_rfl) (by kernel_rfl) (by kernel_rfl)) ?_
            have hC : Core B [Ass.own 3 (Kd.int .i64) A874 C875 l873] [] _ := ⟨_, _, hS.re [3] [] rfl sub_self⟩
            refine ⟨hC, ?_⟩
            refine ED.at' #[true, true, true, false, true, true, true, true, true, true, false, false, true, true, true, true, false, false, false] (by kernel_rfl) ?_
            refine ED.Y hN hF hC 10 5 #[true, true, true, false, true, true, true, true, true, true, true, false, true, true, true, true, false, false, false] (by kernel_rfl) (by kernel_rfl) rfl (fun _ _ _ hS => YO.idx 73 1 ad1108 l877.length C879 .i64 a881 64 (by kernel_rfl) (by kernel_rfl) (by kernel_rfl) (by kernel_rfl) h1106 h1107) ?_
            refine ED.two 3 11 4 (by kernel_rfl) (by kernel_rfl) ?_ ?_
            · refine EO.Y (YO.loadBox hS 2 rfl 73 1 1 (.slice (some ad1108) l877.length C879) 57 (by kernel_rfl) (by kernel_rfl) (by kernel_rfl) (by kernel_rfl)) ?_
              have hC : Core B [Ass.own 3 (Kd.int .i64) A874 C875 l873] [] _ := ⟨_, _, hS.re [3] [] rfl sub_self⟩
              refine ⟨hC, ?_⟩
              refine ED.at' #[true, true, true, true, true, true, true, true, true, true, true, false, true, true, true, true, false, false, false] (by kernel_rfl) ?_
              refine ED.one 11 3 #[true, true, true, true, true, true, true, true, true, true, true, true, true, true, true, true, false, false, false] (by kernel_rfl) (by kernel_rfl) (by kernel_rfl) (EO.Y (YO.loadHole hS 4 ad1108 (j := a881) rfl h1106 76 65 (by kernel_rfl) (by kernel_rfl) (by kernel_rfl) (by kernel_rfl)) ?_)
              have hC : Core B [Ass.own 3 (Kd.int .i64) A874 C875 l873] [] _ := ⟨_, _, hS.re [3] [] rfl sub_self⟩
              refine ⟨hC, ?_⟩
              refine ED.one 16 2 #[true, true, true, true, true, true, true, true, true, true, true, true, true, true, true, true, true, false, false] (by kernel_rfl) (by kernel_rfl) (by kernel_rfl) (EO.append hS 76 76 69 16 1 kS69 A1109 C1110 (l877.getD a881.toNat []) rfl (some ⟨g1192, 0, none⟩) 1 l1115 (Rd.own 0 69 rfl) l1117 hl1117 (fun A1195 C1196 => Ass.own 69 kS69 (some ⟨g1192, 0, none⟩) 1 l1115 :: Ass.own 69 kS69 A1195 C1196 l1117 :: Ass.box 75 g872 [.slice A874 l873.length C875, .slice (some ad1108) l877.length C879] :: Ass.own 3 (Kd.int .i64) A874 C875 l873 :: Ass.holed 76 69 kS69 (some ad1108) C879 l877 a881.toNat (A1109, (l877.getD a881.toNat []).length, C1110) :: os) 70 (by kernel_rfl) (by kernel_rfl) (by kernel_rfl) (by kernel_rfl) h1116 (fun _ _ => rfl) ?_)
              intro A1195 C1196 w hS
              have hC : Core B [Ass.own 3 (Kd.int .i64) A874 C875 l873] [] _ := ⟨_, _, hS.re [3] [] rfl sub_self⟩
              refine ⟨hC, ?_⟩
              refine ED.Y hN hF hC 17 1 #[true, true, true, true, true, true, true, true, true, true, true, true, true, true, true, true, true, true, false] (by kernel_rfl) (by kernel_rfl) rfl (fun _ _ _ hS => YO.idx 73 1 ad1108 l877.length C879 .i64 a881 71 (by kernel_rfl) (by kernel_rfl) (by kernel_rfl) (by kernel_rfl) h1106 h1107) ?_
              refine ED.one 18 0 #[true, true, true, true, true, true, true, true, true, true, true, true, true, true, true, true, true, true, true] (by kernel_rfl) (by kernel_rfl) (by kernel_rfl) (EO.closeEl hS 1 3 ad1108 a881 rfl rfl h1106 l1120 hl1120 (Ass.own 69 kS69 (some ⟨g1192, 0, none⟩) 1 l1115 :: Ass.box 75 g872 [.slice A874 l873.length C875, .slice (some ad1108) l877.length C879] :: Ass.own 3 (Kd.int .i64) A874 C875 l873 :: Ass.deep 76 69 kS69 (some ad1108) C879 l1120 :: os) 76 (by kernel_rfl) (by kernel_rfl) (by kernel_rfl) (by kernel_rfl) rfl ?_)
              intro w hS
              have hS : St B w (Ass.own 69 kS69 (some ⟨g1192, 0, none⟩) 1 l1115 :: Ass.box 75 g872 [.slice A874 l873.length C875, .slice (some ad1108) l1120.length C879] :: Ass.own 3 (Kd.int .i64) A874 C875 l873 :: Ass.deep 76 69 kS69 (some ad1108) C879 l1120 :: os) (rs) := by simpa only [hl1120, List.length_set] using hS
              have hC : Core B [Ass.own 3 (Kd.int .i64) A874 C875 l873] [] _ := ⟨_, _, hS.re [2] [] rfl sub_self⟩
              refine ⟨hC, ?_⟩
              refine ED.keep [10, 56, 57, 58, 61, 62, 63, 64, 68, 69, 71] [(10, .int .i32 t1111), (56, .pointer (some ⟨g872, 1, none⟩)), (57, .slice (some ad1108) l877.length C879), (58, .int .i64 a881), (61, .pointer (some ⟨g872, 1, none⟩)), (62, .slice (some ad1108) l877.length C879), (63, .int .i64 a881), (64, .pointer (some ((ad1108.add (a881.toNat * 1)).add 0))), (68, .agg #[.int .i64 a882, .int .i32 a883]), (69, .slice (some ⟨g1192, 0, none⟩) l1115.length 1), (71, .pointer (some ((ad1108.add (a881.toNat * 1)).add 0)))] (by kernel_rfl) ?_
              refine ED.as' [(10, .int .i32 t1111), (56, .pointer (some ⟨g872, 1, none⟩)), (57, .slice (some ad1108) l1120.length C879), (58, .int .i64 a881), (61, .pointer (some ⟨g872, 1, none⟩)), (62, .slice (some ad1108) l1120.length C879), (63, .int .i64 a881), (64, .pointer (some ((ad1108.add (a881.toNat * 1)).add 0))), (68, .agg #[.int .i64 a882, .int .i32 a883]), (69, .slice (some ⟨g1192, 0, none⟩) l1115.length 1), (71, .pointer (some ((ad1108.add (a881.toNat * 1)).add 0)))] (by simp only [hl1120, List.length_set]) ?_
              refine ED.done (by kernel_rfl) ?_
              refine EQ.to ?_
              refine EQ.keep [10] [(10, .int .i32 t1111)] (by kernel_rfl) ?_
              exact fun a ha => ⟨(some ⟨g1192, 0, none⟩), 1, ha, (hS.re [3, 3, 3, 3] [] rfl (sub_self))⟩
            · refine EO.Y (YO.loadHole hS 4 ad1108 (j := a881) rfl h1106 76 65 (by kernel_rfl) (by kernel_rfl) (by kernel_rfl) (by kernel_rfl)) ?_
              have hC : Core B [Ass.own 3 (Kd.int .i64) A874 C875 l873] [] _ := ⟨_, _, hS.re [3] [] rfl sub_self⟩
              refine ⟨hC, ?_⟩
              refine ED.at' #[true, true, true, false, true, true, true, true, true, true, true, true, true, true, true, true, false, false, false] (by kernel_rfl) ?_
              refine ED.two 3 16 3 (by kernel_rfl) (by kernel_rfl) ?_ ?_
              · refine EO.Y (YO.loadBox hS 2 rfl 73 1 1 (.slice (some ad1108) l877.length C879) 57 (by kernel_rfl) (by kernel_rfl) (by kernel_rfl) (by kernel_rfl)) ?_
                have hC : Core B [Ass.own 3 (Kd.int .i64) A874 C875 l873] [] _ := ⟨_, _, hS.re [3] [] rfl sub_self⟩
                refine ⟨hC, ?_⟩
                refine ED.at' #[true, true, true, true, true, true, true, true, true, true, true, true, true, true, true, true, false, false, false] (by kernel_rfl) ?_
                refine ED.one 16 2 #[true, true, true, true, true, true, true, true, true, true, true, true, true, true, true, true, true, false, false] (by kernel_rfl) (by kernel_rfl) (by kernel_rfl) (EO.append hS 76 76 69 16 1 kS69 A1109 C1110 (l877.getD a881.toNat []) rfl (some ⟨g1192, 0, none⟩) 1 l1115 (Rd.own 0 69 rfl) l1117 hl1117 (fun A1197 C1198 => Ass.own 69 kS69 (some ⟨g1192, 0, none⟩) 1 l1115 :: Ass.own 69 kS69 A1197 C1198 l1117 :: Ass.box 75 g872 [.slice A874 l873.length C875, .slice (some ad1108) l877.length C879] :: Ass.own 3 (Kd.int .i64) A874 C875 l873 :: Ass.holed 76 69 kS69 (some ad1108) C879 l877 a881.toNat (A1109, (l877.getD a881.toNat []).length, C1110) :: os) 70 (by kernel_rfl) (by kernel_rfl) (by kernel_rfl) (by kernel_rfl) h1116 (fun _ _ => rfl) ?_)
                intro A1197 C1198 w hS
                have hC : Core B [Ass.own 3 (Kd.int .i64) A874 C875 l873] [] _ := ⟨_, _, hS.re [3] [] rfl sub_self⟩
                refine ⟨hC, ?_⟩
                refine ED.Y hN hF hC 17 1 #[true, true, true, true, true, true, true, true, true, true, true, true, true, true, true, true, true, true, false] (by kernel_rfl) (by kernel_rfl) rfl (fun _ _ _ hS => YO.idx 73 1 ad1108 l877.length C879 .i64 a881 71 (by kernel_rfl) (by kernel_rfl) (by kernel_rfl) (by kernel_rfl) h1106 h1107) ?_
                refine ED.one 18 0 #[true, true, true, true, true, true, true, true, true, true, true, true, true, true, true, true, true, true, true] (by kernel_rfl) (by kernel_rfl) (by kernel_rfl) (EO.closeEl hS 1 3 ad1108 a881 rfl rfl h1106 l1120 hl1120 (Ass.own 69 kS69 (some ⟨g1192, 0, none⟩) 1 l1115 :: Ass.box 75 g872 [.slice A874 l873.length C875, .slice (some ad1108) l877.length C879] :: Ass.own 3 (Kd.int .i64) A874 C875 l873 :: Ass.deep 76 69 kS69 (some ad1108) C879 l1120 :: os) 76 (by kernel_rfl) (by kernel_rfl) (by kernel_rfl) (by kernel_rfl) rfl ?_)
                intro w hS
                have hS : St B w (Ass.own 69 kS69 (some ⟨g1192, 0, none⟩) 1 l1115 :: Ass.box 75 g872 [.slice A874 l873.length C875, .slice (some ad1108) l1120.length C879] :: Ass.own 3 (Kd.int .i64) A874 C875 l873 :: Ass.deep 76 69 kS69 (some ad1108) C879 l1120 :: os) (rs) := by simpa only [hl1120, List.length_set] using hS
                have hC : Core B [Ass.own 3 (Kd.int .i64) A874 C875 l873] [] _ := ⟨_, _, hS.re [2] [] rfl sub_self⟩
                refine ⟨hC, ?_⟩
                refine ED.keep [10, 56, 57, 58, 61, 62, 63, 64, 68, 69, 71] [(10, .int .i32 t1111), (56, .pointer (some ⟨g872, 1, none⟩)), (57, .slice (some ad1108) l877.length C879), (58, .int .i64 a881), (61, .pointer (some ⟨g872, 1, none⟩)), (62, .slice (some ad1108) l877.length C879), (63, .int .i64 a881), (64, .pointer (some ((ad1108.add (a881.toNat * 1)).add 0))), (68, .agg #[.int .i64 a882, .int .i32 a883]), (69, .slice (some ⟨g1192, 0, none⟩) l1115.length 1), (71, .pointer (some ((ad1108.add (a881.toNat * 1)).add 0)))] (by kernel_rfl) ?_
                refine ED.as' [(10, .int .i32 t1111), (56, .pointer (some ⟨g872, 1, none⟩)), (57, .slice (some ad1108) l1120.length C879), (58, .int .i64 a881), (61, .pointer (some ⟨g872, 1, none⟩)), (62, .slice (some ad1108) l1120.length C879), (63, .int .i64 a881), (64, .pointer (some ((ad1108.add (a881.toNat * 1)).add 0))), (68, .agg #[.int .i64 a882, .int .i32 a883]), (69, .slice (some ⟨g1192, 0, none⟩) l1115.length 1), (71, .pointer (some ((ad1108.add (a881.toNat * 1)).add 0)))] (by simp only [hl1120, List.length_set]) ?_
                refine ED.done (by kernel_rfl) ?_
                refine EQ.to ?_
                refine EQ.keep [10] [(10, .int .i32 t1111)] (by kernel_rfl) ?_
                exact fun a ha => ⟨(some ⟨g1192, 0, none⟩), 1, ha, (hS.re [3, 3, 3, 3] [] rfl (sub_self))⟩
              · refine EO.append hS 76 76 69 16 1 kS69 A1109 C1110 (l877.getD a881.toNat []) rfl (some ⟨g1192, 0, none⟩) 1 l1115 (Rd.own 0 69 rfl) l1117 hl1117 (fun A1199 C1200 => Ass.own 69 kS69 (some ⟨g1192, 0, none⟩) 1 l1115 :: Ass.own 69 kS69 A1199 C1200 l1117 :: Ass.box 75 g872 [.slice A874 l873.length C875, .slice (some ad1108) l877.length C879] :: Ass.own 3 (Kd.int .i64) A874 C875 l873 :: Ass.holed 76 69 kS69 (some ad1108) C879 l877 a881.toNat (A1109, (l877.getD a881.toNat []).length, C1110) :: os) 70 (by kernel_rfl) (by kernel_rfl) (by kernel_rfl) (by kernel_rfl) h1116 (fun _ _ => rfl) ?_
                intro A1199 C1200 w hS
                have hC : Core B [Ass.own 3 (Kd.int .i64) A874 C875 l873] [] _ := ⟨_, _, hS.re [3] [] rfl sub_self⟩
                refine ⟨hC, ?_⟩
                refine ED.at' #[true, true, true, false, true, true, true, true, true, true, true, true, true, true, true, true, true, false, false] (by kernel_rfl) ?_
                refine ED.one 3 2 #[true, true, true, true, true, true, true, true, true, true, true, true, true, true, true, true, true, false, false] (by kernel_rfl) (by kernel_rfl) (by kernel_rfl) (EO.Y (YO.loadBox hS 2 rfl 73 1 1 (.slice (some ad1108) l877.length C879) 57 (by kernel_rfl) (by kernel_rfl) (by kernel_rfl) (by kernel_rfl)) ?_)
                have hC : Core B [Ass.own 3 (Kd.int .i64) A874 C875 l873] [] _ := ⟨_, _, hS.re [3] [] rfl sub_self⟩
                refine ⟨hC, ?_⟩
                refine ED.Y hN hF hC 17 1 #[true, true, true, true, true, true, true, true, true, true, true, true, true, true, true, true, true, true, false] (by kernel_rfl) (by kernel_rfl) rfl (fun _ _ _ hS => YO.idx 73 1 ad1108 l877.length C879 .i64 a881 71 (by kernel_rfl) (by kernel_rfl) (by kernel_rfl) (by kernel_rfl) h1106 h1107) ?_
                refine ED.one 18 0 #[true, true, true, true, true, true, true, true, true, true, true, true, true, true, true, true, true, true, true] (by kernel_rfl) (by kernel_rfl) (by kernel_rfl) (EO.closeEl hS 1 3 ad1108 a881 rfl rfl h1106 l1120 hl1120 (Ass.own 69 kS69 (some ⟨g1192, 0, none⟩) 1 l1115 :: Ass.box 75 g872 [.slice A874 l873.length C875, .slice (some ad1108) l877.length C879] :: Ass.own 3 (Kd.int .i64) A874 C875 l873 :: Ass.deep 76 69 kS69 (some ad1108) C879 l1120 :: os) 76 (by kernel_rfl) (by kernel_rfl) (by kernel_rfl) (by kernel_rfl) rfl ?_)
                intro w hS
                have hS : St B w (Ass.own 69 kS69 (some ⟨g1192, 0, none⟩) 1 l1115 :: Ass.box 75 g872 [.slice A874 l873.length C875, .slice (some ad1108) l1120.length C879] :: Ass.own 3 (Kd.int .i64) A874 C875 l873 :: Ass.deep 76 69 kS69 (some ad1108) C879 l1120 :: os) (rs) := by simpa only [hl1120, List.length_set] using hS
                have hC : Core B [Ass.own 3 (Kd.int .i64) A874 C875 l873] [] _ := ⟨_, _, hS.re [2] [] rfl sub_self⟩
                refine ⟨hC, ?_⟩
                refine ED.keep [10, 56, 57, 58, 61, 62, 63, 64, 68, 69, 71] [(10, .int .i32 t1111), (56, .pointer (some ⟨g872, 1, none⟩)), (57, .slice (some ad1108) l877.length C879), (58, .int .i64 a881), (61, .pointer (some ⟨g872, 1, none⟩)), (62, .slice (some ad1108) l877.length C879), (63, .int .i64 a881), (64, .pointer (some ((ad1108.add (a881.toNat * 1)).add 0))), (68, .agg #[.int .i64 a882, .int .i32 a883]), (69, .slice (some ⟨g1192, 0, none⟩) l1115.length 1), (71, .pointer (some ((ad1108.add (a881.toNat * 1)).add 0)))] (by kernel_rfl) ?_
                refine ED.as' [(10, .int .i32 t1111), (56, .pointer (some ⟨g872, 1, none⟩)), (57, .slice (some ad1108) l1120.length C879), (58, .int .i64 a881), (61, .pointer (some ⟨g872, 1, none⟩)), (62, .slice (some ad1108) l1120.length C879), (63, .int .i64 a881), (64, .pointer (some ((ad1108.add (a881.toNat * 1)).add 0))), (68, .agg #[.int .i64 a882, .int .i32 a883]), (69, .slice (some ⟨g1192, 0, none⟩) l1115.length 1), (71, .pointer (some ((ad1108.add (a881.toNat * 1)).add 0)))] (by simp only [hl1120, List.length_set]) ?_
                refine ED.done (by kernel_rfl) ?_
                refine EQ.to ?_
                refine EQ.keep [10] [(10, .int .i32 t1111)] (by kernel_rfl) ?_
                exact fun a ha => ⟨(some ⟨g1192, 0, none⟩), 1, ha, (hS.re [3, 3, 3, 3] [] rfl (sub_self))⟩
      · obtain ⟨A1160, C1161, ha, hS⟩ := hI
        refine EQ.at ?_ a ha
        clear ha a
        refine EQ.code ?_
        refine EW.seq (x := Cd37.r.r.r.r.l) (y := Cd37.r.r.r.r.r) (by kernel_rfl) ?_
        refine EW.region (id := 5) (ops := Cd37.r.r.r.r.l.ops) (by kernel_rfl) ?_
        refine EL.quick 3 [8, 9] [(8, .int .i32 t1111), (9, .bool (true))] (by kernel_rfl) ?_
        refine EL.done (by kernel_rfl) ?_
        refine EQ.code ?_
        refine EW.ret (by kernel_rfl) ?_
        simp only [Option.some.injEq, Prod.mk.injEq] at H
        obtain ⟨rfl, rfl, rfl⟩ := H
        exact EQ.leave (.tuple #[.int .i32 t1111, .bool (true)]) (by kernel_rfl) ⟨_, rfl, (some ad1108), C879, rfl, (hS.re [3, 3, 3] [3] rfl (sub_self))⟩

/-! ### confidant/confidantref9.Label: function 55 -/
def confidantref9_Label.f (K : Nat) (a1258 : Int) : Option Int := if a1258 < 0 then (some (-1)) else (some (IntKind.i64.wrap (IntKind.i32.wrap (Int.tdiv a1258 65536))))
set_option maxRecDepth 100000 in
theorem confidantref9_Label.calls {K : Nat} {a1258 : Int} {x1261 : Int} {B w : World} {os : List Ass} {rs : List Ro} (H : confidantref9_Label.f K a1258 = some x1261) (hS : St B w (os) (rs)) :
    Calls Try.prog 55 [.int .i32 a1258].toArray w (fun en w' => ∃ v, en = .returned v ∧ v = .int .i64 x1261 ∧ St B w' (os) (rs)) := by
  unfold confidantref9_Label.f at H
  refine calls_of_EW (args := [.int .i32 a1258]) (c := Cd55) 8 Try.func55 (by kernel_rfl) (by kernel_rfl) (by kernel_rfl) ?_
  refine EW.seq (x := Cd55.l) (y := Cd55.r) (by kernel_rfl) ?_
  refine EW.region (id := 0) (ops := Cd55.l.ops) (by kernel_rfl) ?_
  refine EL.quick 1 [0] [(0, .int .i32 a1258)] (by kernel_rfl) ?_
  refine EL.done (by kernel_rfl) ?_
  refine EQ.code ?_
  refine EW.seq (x := Cd55.r.l) (y := Cd55.r.r) (by kernel_rfl) ?_
  refine EW.seq (x := Cd55.r.l.l) (y := Cd55.r.l.r) (by kernel_rfl) ?_
  refine EW.region (id := 1) (ops := Cd55.r.l.l.ops) (by kernel_rfl) ?_
  refine EL.quick 2 [0, 4] [(0, .int .i32 a1258), (4, .bool (decide (a1258 < 0)))] (by kernel_rfl) ?_
  refine EL.done (by kernel_rfl) ?_
  refine EQ.code ?_
  refine EW.condP (o := (.tmp 4)) (x := Cd55.r.l.r.l) (y := Cd55.r.l.r.r) (a1258 < 0) (by kernel_rfl) (by kernel_rfl) (fun h1263 => ?_) (fun h1263 => ?_)
  · rw [if_pos h1263] at H
    refine EW.seq (x := Cd55.r.l.r.l.l) (y := Cd55.r.l.r.l.r) (by kernel_rfl) ?_
    refine EW.region (id := 2) (ops := Cd55.r.l.r.l.l.ops) (by kernel_rfl) ?_
    refine EL.quick 1 [2] [(2, .int .i64 (-1))] (by kernel_rfl) ?_
    refine EL.done (by kernel_rfl) ?_
    refine EQ.code ?_
    refine EW.ret (by kernel_rfl) ?_
    refine EQ.ret ?_
    obtain rfl := Option.some.inj H
    exact EQ.leave (.int .i64 (-1)) (by kernel_rfl) ⟨_, rfl, rfl, (hS.re [] [] rfl (sub_self))⟩
  · rw [if_neg h1263] at H
    refine EW.skip (by kernel_rfl) ?_
    refine EQ.code ?_
    refine EW.seq (x := Cd55.r.r.l) (y := Cd55.r.r.r) (by kernel_rfl) ?_
    refine EW.region (id := 3) (ops := Cd55.r.r.l.ops) (by kernel_rfl) ?_
    refine EL.quick 4 [2] [(2, .int .i64 (IntKind.i64.wrap (IntKind.i32.wrap (Int.tdiv a1258 65536))))] (by kernel_rfl) ?_
    refine EL.done (by kernel_rfl) ?_
    refine EQ.code ?_
    refine EW.ret (by kernel_rfl) ?_
    obtain rfl := Option.some.inj H
    exact EQ.leave (.int .i64 (IntKind.i64.wrap (IntKind.i32.wrap (Int.tdiv a1258 65536)))) (by kernel_rfl) ⟨_, rfl, rfl, (hS.re [] [] rfl (sub_self))⟩

/-! ### confidant/confidantref9.Valid: function 61 -/
def confidantref9_Valid.f (K : Nat) (a1255 : Int) (a1256 : Int) : Option Bool := if a1255 ≥ 0 then (b1 (confidantref9_Label.f K a1255) fun (t1268 : Int) => (some (decide (t1268 < (mn a1256 16))))) else (some false)
set_option maxRecDepth 100000 in
theorem confidantref9_Valid.calls {K : Nat} {a1255 : Int} {a1256 : Int} {x1266 : Bool} {B w : World} {os : List Ass} {rs : List Ro} (H : confidantref9_Valid.f K a1255 a1256 = some x1266) (hS : St B w (os) (rs)) :
    Calls Try.prog 61 [.int .i32 a1255, .int .i64 a1256].toArray w (fun en w' => ∃ v, en = .returned v ∧ v = .bool (x1266) ∧ St B w' (os) (rs)) := by
  unfold confidantref9_Valid.f at H
  refine calls_of_EW (args := [.int .i32 a1255, .int .i64 a1256]) (c := Cd61) 14 Try.func61 (by kernel_rfl) (by kernel_rfl) (by kernel_rfl) ?_
  refine EW.seq (x := Cd61.l) (y := Cd61.r) (by kernel_rfl) ?_
  refine EW.region (id := 0) (ops := Cd61.l.ops) (by kernel_rfl) ?_
  refine EL.quick 1 [0, 1] [(0, .int .i32 a1255), (1, .int .i64 a1256)] (by kernel_rfl) ?_
  refine EL.done (by kernel_rfl) ?_
  refine EQ.code ?_
  refine EW.seq (x := Cd61.r.l) (y := Cd61.r.r) (by kernel_rfl) ?_
  refine EW.region (id := 1) (ops := Cd61.r.l.ops) (by kernel_rfl) ?_
  refine EL.quick 3 [0, 1, 7] [(0, .int .i32 a1255), (1, .int .i64 a1256), (7, .bool (decide (a1255 ≥ 0)))] (by kernel_rfl) ?_
  by_cases h1267 : a1255 ≥ 0
  · rw [if_pos h1267] at H
    refine EL.keep [0, 1, 7] [(0, .int .i32 a1255), (1, .int .i64 a1256), (7, .bool (decide (a1255 ≥ 0)))] (by kernel_rfl) ?_
    refine EL.as' [(0, .int .i32 a1255), (1, .int .i64 a1256), (7, .bool (true))] (by simp only [dec_t h1267, Bool.not_true, Bool.not_false]) ?_
    refine EL.quick 1 [1, 7, 8] [(1, .int .i64 a1256), (7, .bool (true)), (8, .int .i32 a1255)] (by kernel_rfl) ?_
    obtain ⟨t1268, hc1269, H⟩ := b1_out H
    refine EL.of (EO.callD 55 [.int .i32 a1255] _ 9 (by kernel_rfl) (by kernel_rfl) (by kernel_rfl) (confidantref9_Label.calls hc1269 hS) ?_)
    rintro v w ⟨rfl, hS⟩
    refine EL.quick 5 [4] [(4, .bool (decide (t1268 < (mn a1256 16))))] (by kernel_rfl) ?_
    refine EL.done (by kernel_rfl) ?_
    refine EQ.code ?_
    refine EW.ret (by kernel_rfl) ?_
    obtain rfl := Option.some.inj H
    exact EQ.leave (.bool (decide (t1268 < (mn a1256 16)))) (by kernel_rfl) ⟨_, rfl, rfl, (hS.re [] [] rfl (sub_self))⟩
  · rw [if_neg h1267] at H
    refine EL.keep [0, 1, 7] [(0, .int .i32 a1255), (1, .int .i64 a1256), (7, .bool (decide (a1255 ≥ 0)))] (by kernel_rfl) ?_
    refine EL.as' [(0, .int .i32 a1255), (1, .int .i64 a1256), (7, .bool (false))] (by simp only [dec_f h1267, Bool.not_true, Bool.not_false]) ?_
    refine EL.quick 7 [4] [(4, .bool (false))] (by kernel_rfl) ?_
    refine EL.done (by kernel_rfl) ?_
    refine EQ.code ?_
    refine EW.ret (by kernel_rfl) ?_
    obtain rfl := Option.some.inj H
    exact EQ.leave (.bool (false)) (by kernel_rfl) ⟨_, rfl, rfl, (hS.re [] [] rfl (sub_self))⟩

/-! ### confidant/confidantref9.Number: function 56 -/
def confidantref9_Number.f (K : Nat) (a1273 : Int) : Option Int := if a1273 < 0 then (some (-1)) else (some (IntKind.i64.wrap (Int.tmod a1273 65536)))
set_option maxRecDepth 100000 in
theorem confidantref9_Number.calls {K : Nat} {a1273 : Int} {x1276 : Int} {B w : World} {os : List Ass} {rs : List Ro} (H : confidantref9_Number.f K a1273 = some x1276) (hS : St B w (os) (rs)) :
    Calls Try.prog 56 [.int .i32 a1273].toArray w (fun en w' => ∃ v, en = .returned v ∧ v = .int .i64 x1276 ∧ St B w' (os) (rs)) := by
  unfold confidantref9_Number.f at H
  refine calls_of_EW (args := [.int .i32 a1273]) (c := Cd56) 8 Try.func56 (by kernel_rfl) (by kernel_rfl) (by kernel_rfl) ?_
  refine EW.seq (x := Cd56.l) (y := Cd56.r) (by kernel_rfl) ?_
  refine EW.region (id := 0) (ops := Cd56.l.ops) (by kernel_rfl) ?_
  refine EL.quick 1 [0] [(0, .int .i32 a1273)] (by kernel_rfl) ?_
  refine EL.done (by kernel_rfl) ?_
  refine EQ.code ?_
  refine EW.seq (x := Cd56.r.l) (y := Cd56.r.r) (by kernel_rfl) ?_
  refine EW.seq (x := Cd56.r.l.l) (y := Cd56.r.l.r) (by kernel_rfl) ?_
  refine EW.region (id := 1) (ops := Cd56.r.l.l.ops) (by kernel_rfl) ?_
  refine EL.quick 2 [0, 4] [(0, .int .i32 a1273), (4, .bool (decide (a1273 < 0)))] (by kernel_rfl) ?_
  refine EL.done (by kernel_rfl) ?_
  refine EQ.code ?_
  refine EW.condP (o := (.tmp 4)) (x := Cd56.r.l.r.l) (y := Cd56.r.l.r.r) (a1273 < 0) (by kernel_rfl) (by kernel_rfl) (fun h1278 => ?_) (fun h1278 => ?_)
  · rw [if_pos h1278] at H
    refine EW.seq (x := Cd56.r.l.r.l.l) (y := Cd56.r.l.r.l.r) (by kernel_rfl) ?_
    refine EW.region (id := 2) (ops := Cd56.r.l.r.l.l.ops) (by kernel_rfl) ?_
    refine EL.quick 1 [2] [(2, .int .i64 (-1))] (by kernel_rfl) ?_
    refine EL.done (by kernel_rfl) ?_
    refine EQ.code ?_
    refine EW.ret (by kernel_rfl) ?_
    refine EQ.ret ?_
    obtain rfl := Option.some.inj H
    exact EQ.leave (.int .i64 (-1)) (by kernel_rfl) ⟨_, rfl, rfl, (hS.re [] [] rfl (sub_self))⟩
  · rw [if_neg h1278] at H
    refine EW.skip (by kernel_rfl) ?_
    refine EQ.code ?_
    refine EW.seq (x := Cd56.r.r.l) (y := Cd56.r.r.r) (by kernel_rfl) ?_
    refine EW.region (id := 3) (ops := Cd56.r.r.l.ops) (by kernel_rfl) ?_
    refine EL.quick 4 [2] [(2, .int .i64 (IntKind.i64.wrap (Int.tmod a1273 65536)))] (by kernel_rfl) ?_
    refine EL.done (by kernel_rfl) ?_
    refine EQ.code ?_
    refine EW.ret (by kernel_rfl) ?_
    obtain rfl := Option.some.inj H
    exact EQ.leave (.int .i64 (IntKind.i64.wrap (Int.tmod a1273 65536))) (by kernel_rfl) ⟨_, rfl, rfl, (hS.re [] [] rfl (sub_self))⟩

/-! ### (*confidant/confidantref12.Arena).there: function 54 -/
def confidantref12_Arena_there.f (K : Nat) (l1246 : List Int) (l1250 : List (List S69)) (a1254 : Int) : Option Bool := b1 (confidantref9_Valid.f K a1254 (l1250.length : Int)) fun (t1289 : Bool) => (if t1289 = true then (b1 (confidantref9_Number.f K a1254) fun (t1292 : Int) => (b1 (confidantref9_Label.f K a1254) fun (t1294 : Int) => (if 0 ≤ t1294 then (if t1294 < (l1250.length : Int) then (some (decide (t1292 < ((l1250.getD t1294.toNat []).length : Int)))) else none) else none))) else (some false))
set_option maxRecDepth 100000 in
theorem confidantref12_Arena_there.calls {K : Nat} {l1246 : List Int} {l1250 : List (List S69)} {a1254 : Int} {g1245 : Nat} {A1247 : Option Addr} {C1248 : Nat} {A1251 : Option Addr} {C1252 : Nat} {x1288 : Bool} {B w : World} {os : List Ass} {rs : List Ro} (H : confidantref12_Arena_there.f K l1246 l1250 a1254 = some x1288) (hS : St B w (Ass.box 75 g1245 [.slice A1247 l1246.length C1248, .slice A1251 l1250.length C1252] :: Ass.own 3 (Kd.int .i64) A1247 C1248 l1246 :: Ass.deep 76 69 kS69 A1251 C1252 l1250 :: os) (rs)) :
    Calls Try.prog 54 [.pointer (some ⟨g1245, 0, none⟩), .int .i32 a1254].toArray w (fun en w' => ∃ v, en = .returned v ∧ v = .bool (x1288) ∧ St B w' (Ass.box 75 g1245 [.slice A1247 l1246.length C1248, .slice A1251 l1250.length C1252] :: Ass.own 3 (Kd.int .i64) A1247 C1248 l1246 :: Ass.deep 76 69 kS69 A1251 C1252 l1250 :: os) (rs)) := by
  unfold confidantref12_Arena_there.f at H
  refine calls_of_EW (args := [.pointer (some ⟨g1245, 0, none⟩), .int .i32 a1254]) (c := Cd54) 26 Try.func54 (by kernel_rfl) (by kernel_rfl) (by kernel_rfl) ?_
  refine EW.seq (x := Cd54.l) (y := Cd54.r) (by kernel_rfl) ?_
  refine EW.region (id := 0) (ops := Cd54.l.ops) (by kernel_rfl) ?_
  refine EL.quick 1 [0, 1] [(0, .pointer (some ⟨g1245, 0, none⟩)), (1, .int .i32 a1254)] (by kernel_rfl) ?_
  refine EL.done (by kernel_rfl) ?_
  refine EQ.code ?_
  refine EW.seq (x := Cd54.r.l) (y := Cd54.r.r) (by kernel_rfl) ?_
  obtain ⟨t1289, hc1290, H⟩ := b1_out H
  by_cases h1291 : t1289 = true
  · rw [if_pos h1291] at H
    obtain ⟨t1292, hc1293, H⟩ := b1_out H
    obtain ⟨t1294, hc1295, H⟩ := b1_out H
    obtain ⟨h1296, H⟩ := ite_in H
    obtain ⟨h1297, H⟩ := ite_in H
    obtain ⟨ad1298, rfl⟩ := St.deep_some hS 2 rfl h1296 h1297
    have hS := hS.drew
    refine EW.draw (B := B) (id := 1) (ops := Cd54.r.l.ops) [Ass.box 75 g1245 [.slice A1247 l1246.length C1248, .slice (some ad1298) l1250.length C1252], Ass.own 3 (Kd.int .i64) A1247 C1248 l1246] [] (by kernel_rfl) (by kernel_rfl) ?_
    have hN : Region.noSelect Cd54.r.l.ops = true := (by kernel_rfl)
    have hF : freeAll Cd54.r.l.ops = true := (by kernel_rfl)
    have hC : Core B [Ass.box 75 g1245 [.slice A1247 l1246.length C1248, .slice (some ad1298) l1250.length C1252], Ass.own 3 (Kd.int .i64) A1247 C1248 l1246] [] _ := ⟨_, _, hS⟩
    refine ED.quick hN hF hC [0, 1, 2, 3] [0, 1, 5, 8] 18 [(0, .pointer (some ⟨g1245, 0, none⟩)), (1, .int .i32 a1254), (5, .int .i32 a1254), (8, .pointer (some ⟨g1245, 1, none⟩))] #[true, true, true, true, false, false, false, false, false, false, false, false, false, false, false, false, false, false, false, false, false, false] (by kernel_rfl) (by kernel_rfl) ?_
    refine ED.Y hN hF hC 4 17 #[true, true, true, true, true, false, false, false, false, false, false, false, false, false, false, false, false, false, false, false, false, false] (by kernel_rfl) (by kernel_rfl) rfl (fun _ _ _ hS => YO.loadBox hS 0 rfl 73 1 1 (.slice (some ad1298) l1250.length C1252) 9 (by kernel_rfl) (by kernel_rfl) (by kernel_rfl) (by kernel_rfl)) ?_
    refine ED.quick hN hF hC [5] [0, 1, 5, 10] 16 [(0, .pointer (some ⟨g1245, 0, none⟩)), (1, .int .i32 a1254), (5, .int .i32 a1254), (10, .int .i64 (l1250.length : Int))] #[true, true, true, true, true, true, false, false, false, false, false, false, false, false, false, false, false, false, false, false, false, false] (by kernel_rfl) (by kernel_rfl) ?_
    refine ED.one 6 15 #[true, true, true, true, true, true, true, false, false, false, false, false, false, false, false, false, false, false, false, false, false, false] (by kernel_rfl) (by kernel_rfl) (by kernel_rfl) (EO.callD 61 [.int .i32 a1254, .int .i64 (l1250.length : Int)] _ 11 (by kernel_rfl) (by kernel_rfl) (by kernel_rfl) (confidantref9_Valid.calls hc1290 hS) ?_)
    rintro v w ⟨rfl, hS⟩
    have hC : Core B [Ass.box 75 g1245 [.slice A1247 l1246.length C1248, .slice (some ad1298) l1250.length C1252], Ass.own 3 (Kd.int .i64) A1247 C1248 l1246] [] _ := ⟨_, _, hS⟩
    refine ⟨hC, ?_⟩
    refine ED.quick hN hF hC [7] [0, 1, 12] 14 [(0, .pointer (some ⟨g1245, 0, none⟩)), (1, .int .i32 a1254), (12, .bool (t1289))] #[true, true, true, true, true, true, true, true, false, false, false, false, false, false, false, false, false, false, false, false, false, false] (by kernel_rfl) (by kernel_rfl) ?_
    refine ED.keep [0, 1, 12] [(0, .pointer (some ⟨g1245, 0, none⟩)), (1, .int .i32 a1254), (12, .bool (t1289))] (by kernel_rfl) ?_
    refine ED.as' [(0, .pointer (some ⟨g1245, 0, none⟩)), (1, .int .i32 a1254), (12, .bool (true))] (by simp only [h1291, Bool.not_true, Bool.not_false]) ?_
    refine ED.quick hN hF hC [8, 10, 11, 12, 14] [12, 13, 17, 19] 9 [(12, .bool (true)), (13, .int .i32 a1254), (17, .pointer (some ⟨g1245, 1, none⟩)), (19, .int .i32 a1254)] #[true, true, true, true, true, true, true, true, true, false, true, true, true, false, true, false, false, false, false, false, false, false] (by kernel_rfl) (by kernel_rfl) ?_
    refine ED.Y hN hF hC 13 8 #[true, true, true, true, true, true, true, true, true, false, true, true, true, true, true, false, false, false, false, false, false, false] (by kernel_rfl) (by kernel_rfl) rfl (fun _ _ _ hS => YO.loadBox hS 0 rfl 73 1 1 (.slice (some ad1298) l1250.length C1252) 18 (by kernel_rfl) (by kernel_rfl) (by kernel_rfl) (by kernel_rfl)) ?_
    refine ED.one 9 7 #[true, true, true, true, true, true, true, true, true, true, true, true, true, true, true, false, false, false, false, false, false, false] (by kernel_rfl) (by kernel_rfl) (by kernel_rfl) (EO.callD 56 [.int .i32 a1254] _ 14 (by kernel_rfl) (by kernel_rfl) (by kernel_rfl) (confidantref9_Number.calls hc1293 hS) ?_)
    rintro v w ⟨rfl, hS⟩
    have hC : Core B [Ass.box 75 g1245 [.slice A1247 l1246.length C1248, .slice (some ad1298) l1250.length C1252], Ass.own 3 (Kd.int .i64) A1247 C1248 l1246] [] _ := ⟨_, _, hS⟩
    refine ⟨hC, ?_⟩
    refine ED.one 15 6 #[true, true, true, true, true, true, true, true, true, true, true, true, true, true, true, true, false, false, false, false, false, false] (by kernel_rfl) (by kernel_rfl) (by kernel_rfl) (EO.callD 55 [.int .i32 a1254] _ 20 (by kernel_rfl) (by kernel_rfl) (by kernel_rfl) (confidantref9_Label.calls hc1295 hS) ?_)
    rintro v w ⟨rfl, hS⟩
    have hC : Core B [Ass.box 75 g1245 [.slice A1247 l1246.length C1248, .slice (some ad1298) l1250.length C1252], Ass.own 3 (Kd.int .i64) A1247 C1248 l1246] [] _ := ⟨_, _, hS⟩
    refine ⟨hC, ?_⟩
    refine ED.Y hN hF hC 16 5 #[true, true, true, true, true, true, true, true, true, true, true, true, true, true, true, true, true, false, false, false, false, false] (by kernel_rfl) (by kernel_rfl) rfl (fun _ _ _ hS => YO.idx 73 1 ad1298 l1250.length C1252 .i64 t1294 21 (by kernel_rfl) (by kernel_rfl) (by kernel_rfl) (by kernel_rfl) h1296 h1297) ?_
    refine ED.one 17 4 #[true, true, true, true, true, true, true, true, true, true, true, true, true, true, true, true, true, true, false, false, false, false] (by kernel_rfl) (by kernel_rfl) (by kernel_rfl) (EO.openEl hS 2 ad1298 rfl t1294 h1296 h1297 (fun A1303 C1304 => Ass.box 75 g1245 [.slice A1247 l1246.length C1248, .slice (some ad1298) l1250.length C1252] :: Ass.own 3 (Kd.int .i64) A1247 C1248 l1246 :: Ass.holed 76 69 kS69 (some ad1298) C1252 l1250 t1294.toNat (A1303, (l1250.getD t1294.toNat []).length, C1304) :: os) 76 22 (by kernel_rfl) (by kernel_rfl) (by kernel_rfl) (by kernel_rfl) (fun _ _ => rfl) ?_)
    intro A1303 C1304 hS
    have hC : Core B [Ass.box 75 g1245 [.slice A1247 l1246.length C1248, .slice (some ad1298) l1250.length C1252], Ass.own 3 (Kd.int .i64) A1247 C1248 l1246] [] _ := ⟨_, _, hS.re [2, 2] [] rfl sub_self⟩
    refine ⟨hC, ?_⟩
    refine ED.quick hN hF hC [18, 19, 20, 21] [4] 0 [(4, .bool (decide (t1292 < ((l1250.getD t1294.toNat []).length : Int))))] #[true, true, true, true, true, true, true, true, true, true, true, true, true, true, true, true, true, true, true, true, true, true] (by kernel_rfl) (by kernel_rfl) ?_
    refine ED.done (by kernel_rfl) ?_
    refine EQ.code ?_
    refine EW.ret (by kernel_rfl) ?_
    have hS := St.as (os' := Ass.box 75 g1245 [.slice A1247 l1246.length C1248, .slice (some ad1298) l1250.length C1252] :: Ass.own 3 (Kd.int .i64) A1247 C1248 l1246 :: Ass.deep 76 69 kS69 (some ad1298) C1252 l1250 :: os) (St.close hS 0 2 rfl rfl rfl l1250 (set_getD _ _)) rfl
    obtain rfl := Option.some.inj H
    exact EQ.leave (.bool (decide (t1292 < ((l1250.getD t1294.toNat []).length : Int)))) (by kernel_rfl) ⟨_, rfl, rfl, (hS.re [2, 2, 2] [] rfl (sub_self))⟩
  · rw [if_neg h1291] at H
    have hS := hS.drew
    refine EW.draw (B := B) (id := 1) (ops := Cd54.r.l.ops) [Ass.box 75 g1245 [.slice A1247 l1246.length C1248, .slice A1251 l1250.length C1252], Ass.own 3 (Kd.int .i64) A1247 C1248 l1246, Ass.deep 76 69 kS69 A1251 C1252 l1250] [] (by kernel_rfl) (by kernel_rfl) ?_
    have hN : Region.noSelect Cd54.r.l.ops = true := (by kernel_rfl)
    have hF : freeAll Cd54.r.l.ops = true := (by kernel_rfl)
    have hC : Core B [Ass.box 75 g1245 [.slice A1247 l1246.length C1248, .slice A1251 l1250.length C1252], Ass.own 3 (Kd.int .i64) A1247 C1248 l1246, Ass.deep 76 69 kS69 A1251 C1252 l1250] [] _ := ⟨_, _, hS⟩
    refine ED.quick hN hF hC [0, 1, 2, 3] [0, 1, 5, 8] 18 [(0, .pointer (some ⟨g1245, 0, none⟩)), (1, .int .i32 a1254), (5, .int .i32 a1254), (8, .pointer (some ⟨g1245, 1, none⟩))] #[true, true, true, true, false, false, false, false, false, false, false, false, false, false, false, false, false, false, false, false, false, false] (by kernel_rfl) (by kernel_rfl) ?_
    refine ED.Y hN hF hC 4 17 #[true, true, true, true, true, false, false, false, false, false, false, false, false, false, false, false, false, false, false, false, false, false] (by kernel_rfl) (by kernel_rfl) rfl (fun _ _ _ hS => YO.loadBox hS 0 rfl 73 1 1 (.slice A1251 l1250.length C1252) 9 (by kernel_rfl) (by kernel_rfl) (by kernel_rfl) (by kernel_rfl)) ?_
    refine ED.quick hN hF hC [5] [0, 1, 5, 10] 16 [(0, .pointer (some ⟨g1245, 0, none⟩)), (1, .int .i32 a1254), (5, .int .i32 a1254), (10, .int .i64 (l1250.length : Int))] #[true, true, true, true, true, true, false, false, false, false, false, false, false, false, false, false, false, false, false, false, false, false] (by kernel_rfl) (by kernel_rfl) ?_
    refine ED.one 6 15 #[true, true, true, true, true, true, true, false, false, false, false, false, false, false, false, false, false, false, false, false, false, false] (by kernel_rfl) (by kernel_rfl) (by kernel_rfl) (EO.callD 61 [.int .i32 a1254, .int .i64 (l1250.length : Int)] _ 11 (by kernel_rfl) (by kernel_rfl) (by kernel_rfl) (confidantref9_Valid.calls hc1290 hS) ?_)
    rintro v w ⟨rfl, hS⟩
    have hC : Core B [Ass.box 75 g1245 [.slice A1247 l1246.length C1248, .slice A1251 l1250.length C1252], Ass.own 3 (Kd.int .i64) A1247 C1248 l1246, Ass.deep 76 69 kS69 A1251 C1252 l1250] [] _ := ⟨_, _, hS⟩
    refine ⟨hC, ?_⟩
    refine ED.quick hN hF hC [7] [0, 1, 12] 14 [(0, .pointer (some ⟨g1245, 0, none⟩)), (1, .int .i32 a1254), (12, .bool (t1289))] #[true, true, true, true, true, true, true, true, false, false, false, false, false, false, false, false, false, false, false, false, false, false] (by kernel_rfl) (by kernel_rfl) ?_
    refine ED.keep [0, 1, 12] [(0, .pointer (some ⟨g1245, 0, none⟩)), (1, .int .i32 a1254), (12, .bool (t1289))] (by kernel_rfl) ?_
    refine ED.as' [(0, .pointer (some ⟨g1245, 0, none⟩)), (1, .int .i32 a1254), (12, .bool (false))] (by simp only [(Bool.eq_false_iff.2 h1291), Bool.not_true, Bool.not_false]) ?_
    refine ED.quick hN hF hC [8, 9, 10, 11, 12, 13, 14, 15, 16, 17, 18, 19, 20, 21] [4] 0 [(4, .bool (false))] #[true, true, true, true, true, true, true, true, true, true, true, true, true, true, true, true, true, true, true, true, true, true] (by kernel_rfl) (by kernel_rfl) ?_
    refine ED.done (by kernel_rfl) ?_
    refine EQ.code ?_
    refine EW.ret (by kernel_rfl) ?_
    obtain rfl := Option.some.inj H
    exact EQ.leave (.bool (false)) (by kernel_rfl) ⟨_, rfl, rfl, (hS.re [2, 2, 2] [] rfl (sub_self))⟩

/-! ### (*confidant/confidantref12.Arena).Get: function 39 -/
def confidantref12_Arena_Get.f (K : Nat) (l1233 : List Int) (l1237 : List (List S69)) (a1241 : Int) : Option (Int × Int × Bool) := b1 (confidantref12_Arena_there.f K l1233 l1237 a1241) fun (t1339 : Bool) => (if t1339 = true then (b1 (confidantref9_Label.f K a1241) fun (t1342 : Int) => (if 0 ≤ t1342 then (if t1342 < (l1237.length : Int) then (b1 (confidantref9_Number.f K a1241) fun (t1349 : Int) => (if 0 ≤ t1349 then (if t1349 < ((l1237.getD t1342.toNat []).length : Int) then (some (((l1237.getD t1342.toNat []).getD t1349.toNat zS69).f0, ((l1237.getD t1342.toNat []).getD t1349.toNat zS69).f1, true)) else none) else none)) else none) else none)) else (some (0, 0, false)))
set_option maxRecDepth 100000 in
theorem confidantref12_Arena_Get.calls {K : Nat} {l1233 : List Int} {l1237 : List (List S69)} {a1241 : Int} {g1232 : Nat} {A1234 : Option Addr} {C1235 : Nat} {A1238 : Option Addr} {C1239 : Nat} {x1327 : Int} {x1328 : Int} {x1329 : Bool} {B w : World} {os : List Ass} {rs : List Ro} (H : confidantref12_Arena_Get.f K l1233 l1237 a1241 = some (x1327, x1328, x1329)) (hS : St B w (Ass.box 75 g1232 [.slice A1234 l1233.length C1235, .slice A1238 l1237.length C1239] :: Ass.own 3 (Kd.int .i64) A1234 C1235 l1233 :: Ass.deep 76 69 kS69 A1238 C1239 l1237 :: os) (rs)) :
    Calls Try.prog 39 [.pointer (some ⟨g1232, 0, none⟩), .int .i32 a1241].toArray w (fun en w' => ∃ v, en = .returned v ∧ v = .tuple #[.agg #[.int .i64 x1327, .int .i32 x1328], .bool (x1329)] ∧ St B w' (Ass.box 75 g1232 [.slice A1234 l1233.length C1235, .slice A1238 l1237.length C1239] :: Ass.own 3 (Kd.int .i64) A1234 C1235 l1233 :: Ass.deep 76 69 kS69 A1238 C1239 l1237 :: os) (rs)) := by
  unfold confidantref12_Arena_Get.f at H
  refine calls_of_EW (args := [.pointer (some ⟨g1232, 0, none⟩), .int .i32 a1241]) (c := Cd39) 23 Try.func39 (by kernel_rfl) (by kernel_rfl) (by kernel_rfl) ?_
  refine EW.seq (x := Cd39.l) (y := Cd39.r) (by kernel_rfl) ?_
  refine EW.region (id := 0) (ops := Cd39.l.ops) (by kernel_rfl) ?_
  refine EL.of (EO.alloc hS 69 (.agg #[.int .i64 0, .int .i32 0]) [.int .i64 0, .int .i32 0] 4 (by kernel_rfl) (by kernel_rfl) (by kernel_rfl) (by kernel_rfl) (by first | rfl | kernel_rfl) ?_)
  intro g1331 w hS
  refine EL.quick 1 [0, 1, 4] [(0, .pointer (some ⟨g1232, 0, none⟩)), (1, .int .i32 a1241), (4, .pointer (some ⟨g1331, 0, none⟩))] (by kernel_rfl) ?_
  refine EL.done (by kernel_rfl) ?_
  refine EQ.code ?_
  refine EW.seq (x := Cd39.r.l) (y := Cd39.r.r) (by kernel_rfl) ?_
  refine EW.seq (x := Cd39.r.l.l) (y := Cd39.r.l.r) (by kernel_rfl) ?_
  refine EW.region (id := 1) (ops := Cd39.r.l.l.ops) (by kernel_rfl) ?_
  refine EL.quick 2 [0, 1, 4, 6, 7] [(0, .pointer (some ⟨g1232, 0, none⟩)), (1, .int .i32 a1241), (4, .pointer (some ⟨g1331, 0, none⟩)), (6, .pointer (some ⟨g1232, 0, none⟩)), (7, .int .i32 a1241)] (by kernel_rfl) ?_
  have hS : St B _ (Ass.box 75 g1232 [.slice A1234 l1233.length C1235, .slice A1238 l1237.length C1239] :: Ass.own 3 (Kd.int .i64) A1234 C1235 l1233 :: Ass.deep 76 69 kS69 A1238 C1239 l1237 :: Ass.box 69 g1331 [.int .i64 0, .int .i32 0] :: os) (rs) := hS.re [3, 3, 3] [] rfl sub_self
  obtain ⟨t1339, hc1340, H⟩ := b1_out H
  refine EL.of (EO.callD 54 [.pointer (some ⟨g1232, 0, none⟩), .int .i32 a1241] _ 8 (by kernel_rfl) (by kernel_rfl) (by kernel_rfl) (confidantref12_Arena_there.calls hc1340 hS) ?_)
  rintro v w ⟨rfl, hS⟩
  refine EL.quick 1 [0, 1, 4, 9] [(0, .pointer (some ⟨g1232, 0, none⟩)), (1, .int .i32 a1241), (4, .pointer (some ⟨g1331, 0, none⟩)), (9, .bool (!(t1339)))] (by kernel_rfl) ?_
  refine EL.done (by kernel_rfl) ?_
  refine EQ.code ?_
  refine EW.condQ (b := !(t1339)) (o := (.tmp 9)) (x := Cd39.r.l.r.l) (y := Cd39.r.l.r.r) (t1339 = true) (false) (by kernel_rfl) (by kernel_rfl) ⟨fun h => (by rw [h] <;> rfl), fun h => (by rw [Bool.eq_false_iff.2 h] <;> rfl)⟩ (fun h1341 => ?_) (fun h1341 => ?_)
  · rw [if_pos h1341] at H
    refine EW.skip (by kernel_rfl) ?_
    refine EQ.code ?_
    refine EW.seq (x := Cd39.r.r.l) (y := Cd39.r.r.r) (by kernel_rfl) ?_
    obtain ⟨t1342, hc1343, H⟩ := b1_out H
    obtain ⟨h1344, H⟩ := ite_in H
    obtain ⟨h1345, H⟩ := ite_in H
    obtain ⟨ad1346, rfl⟩ := St.deep_some hS 2 rfl h1344 h1345
    obtain ⟨t1349, hc1350, H⟩ := b1_out H
    obtain ⟨h1351, H⟩ := ite_in H
    obtain ⟨h1352, H⟩ := ite_in H
    refine EW.meet (id := 3) (ops := Cd39.r.r.l.ops) (fun a w => Sat 23 [(4, .pointer (some ⟨g1331, 0, none⟩)), (5, .bool (true))] a ∧ St B w (Ass.box 75 g1232 [.slice A1234 l1233.length C1235, .slice (some ad1346) l1237.length C1239] :: Ass.own 3 (Kd.int .i64) A1234 C1235 l1233 :: Ass.deep 76 69 kS69 (some ad1346) C1239 l1237 :: Ass.box 69 g1331 [.int .i64 (((l1237.getD t1342.toNat []).getD t1349.toNat zS69).f0), .int .i32 (((l1237.getD t1342.toNat []).getD t1349.toNat zS69).f1)] :: os) (rs)) (by kernel_rfl) ?_ (fun a w hI => ?_)
    · have hS := hS.drew
      refine EW.draw (B := B) (id := 3) (ops := Cd39.r.r.l.ops) [Ass.box 75 g1232 [.slice A1234 l1233.length C1235, .slice (some ad1346) l1237.length C1239], Ass.own 3 (Kd.int .i64) A1234 C1235 l1233] [] (by kernel_rfl) (by kernel_rfl) ?_
      have hN : Region.noSelect Cd39.r.r.l.ops = true := (by kernel_rfl)
      have hF : freeAll Cd39.r.r.l.ops = true := (by kernel_rfl)
      have hC : Core B [Ass.box 75 g1232 [.slice A1234 l1233.length C1235, .slice (some ad1346) l1237.length C1239], Ass.own 3 (Kd.int .i64) A1234 C1235 l1233] [] _ := ⟨_, _, hS⟩
      refine ED.quick hN hF hC [0, 1, 2, 4, 8] [4, 13, 15, 19] 9 [(4, .pointer (some ⟨g1331, 0, none⟩)), (13, .pointer (some ⟨g1232, 1, none⟩)), (15, .int .i32 a1241), (19, .int .i32 a1241)] #[true, true, true, false, true, false, false, false, true, false, false, false, false, false] (by kernel_rfl) (by kernel_rfl) ?_
      refine ED.Y hN hF hC 3 8 #[true, true, true, true, true, false, false, false, true, false, false, false, false, false] (by kernel_rfl) (by kernel_rfl) rfl (fun _ _ _ hS => YO.loadBox hS 0 rfl 73 1 1 (.slice (some ad1346) l1237.length C1239) 14 (by kernel_rfl) (by kernel_rfl) (by kernel_rfl) (by kernel_rfl)) ?_
      refine ED.one 5 7 #[true, true, true, true, true, true, false, false, true, false, false, false, false, false] (by kernel_rfl) (by kernel_rfl) (by kernel_rfl) (EO.callD 55 [.int .i32 a1241] _ 16 (by kernel_rfl) (by kernel_rfl) (by kernel_rfl) (confidantref9_Label.calls hc1343 hS) ?_)
      rintro v w ⟨rfl, hS⟩
      have hC : Core B [Ass.box 75 g1232 [.slice A1234 l1233.length C1235, .slice (some ad1346) l1237.length C1239], Ass.own 3 (Kd.int .i64) A1234 C1235 l1233] [] _ := ⟨_, _, hS⟩
      refine ⟨hC, ?_⟩
      refine ED.Y hN hF hC 6 6 #[true, true, true, true, true, true, true, false, true, false, false, false, false, false] (by kernel_rfl) (by kernel_rfl) rfl (fun _ _ _ hS => YO.idx 73 1 ad1346 l1237.length C1239 .i64 t1342 17 (by kernel_rfl) (by kernel_rfl) (by kernel_rfl) (by kernel_rfl) h1344 h1345) ?_
      refine ED.two 7 9 5 (by kernel_rfl) (by kernel_rfl) ?_ ?_
      · refine EO.openEl hS 2 ad1346 rfl t1342 h1344 h1345 (fun A1360 C1361 => Ass.box 75 g1232 [.slice A1234 l1233.length C1235, .slice (some ad1346) l1237.length C1239] :: Ass.own 3 (Kd.int .i64) A1234 C1235 l1233 :: Ass.holed 76 69 kS69 (some ad1346) C1239 l1237 t1342.toNat (A1360, (l1237.getD t1342.toNat []).length, C1361) :: Ass.box 69 g1331 [.int .i64 0, .int .i32 0] :: os) 76 18 (by kernel_rfl) (by kernel_rfl) (by kernel_rfl) (by kernel_rfl) (fun _ _ => rfl) ?_
        intro A1360 C1361 hS
        have hC : Core B [Ass.box 75 g1232 [.slice A1234 l1233.length C1235, .slice (some ad1346) l1237.length C1239], Ass.own 3 (Kd.int .i64) A1234 C1235 l1233] [] _ := ⟨_, _, hS.re [2, 2] [] rfl sub_self⟩
        refine ⟨hC, ?_⟩
        refine ED.at' #[true, true, true, true, true, true, true, true, true, false, false, false, false, false] (by kernel_rfl) ?_
        refine ED.one 9 4 #[true, true, true, true, true, true, true, true, true, true, false, false, false, false] (by kernel_rfl) (by kernel_rfl) (by kernel_rfl) (EO.callD 56 [.int .i32 a1241] _ 20 (by kernel_rfl) (by kernel_rfl) (by kernel_rfl) (confidantref9_Number.calls hc1350 hS) ?_)
        rintro v w ⟨rfl, hS⟩
        have hC : Core B [Ass.box 75 g1232 [.slice A1234 l1233.length C1235, .slice (some ad1346) l1237.length C1239], Ass.own 3 (Kd.int .i64) A1234 C1235 l1233] [] _ := ⟨_, _, hS.re [2, 2] [] rfl sub_self⟩
        refine ⟨hC, ?_⟩
        obtain ⟨ad1362, rfl⟩ := St.rd_some hS (Rd.own 0 69 rfl) h1351 h1352
        refine ED.Y hN hF hC 10 3 #[true, true, true, true, true, true, true, true, true, true, true, false, false, false] (by kernel_rfl) (by kernel_rfl) rfl (fun _ _ _ hS => YO.idx 76 2 ad1362 (l1237.getD t1342.toNat []).length C1361 .i64 t1349 21 (by kernel_rfl) (by kernel_rfl) (by kernel_rfl) (by kernel_rfl) h1351 h1352) ?_
        refine ED.one 11 2 #[true, true, true, true, true, true, true, true, true, true, true, true, false, false] (by kernel_rfl) (by kernel_rfl) (by kernel_rfl) (EO.Y (YO.loadEl hS kS69 ad1362 C1361 (l1237.getD t1342.toNat []) (Rd.own 0 69 rfl) zS69 encS69 encS69_of t1349 h1351 h1352 69 2 0 2 rfl (.agg #[.int .i64 (((l1237.getD t1342.toNat []).getD t1349.toNat zS69).f0), .int .i32 (((l1237.getD t1342.toNat []).getD t1349.toNat zS69).f1)]) 22 (by kernel_rfl) (by kernel_rfl) (by kernel_rfl) (by kernel_rfl)) ?_)
        have hC : Core B [Ass.box 75 g1232 [.slice A1234 l1233.length C1235, .slice (some ad1346) l1237.length C1239], Ass.own 3 (Kd.int .i64) A1234 C1235 l1233] [] _ := ⟨_, _, hS.re [2, 2] [] rfl sub_self⟩
        refine ⟨hC, ?_⟩
        refine ED.one 12 1 #[true, true, true, true, true, true, true, true, true, true, true, true, true, false] (by kernel_rfl) (by kernel_rfl) (by kernel_rfl) (EO.storeBox (os' := Ass.own 69 kS69 (some ad1362) C1361 (l1237.getD t1342.toNat []) :: Ass.box 75 g1232 [.slice A1234 l1233.length C1235, .slice (some ad1346) l1237.length C1239] :: Ass.own 3 (Kd.int .i64) A1234 C1235 l1233 :: Ass.holed 76 69 kS69 (some ad1346) C1239 l1237 t1342.toNat ((some ad1362), (l1237.getD t1342.toNat []).length, C1361) :: Ass.box 69 g1331 [.int .i64 (((l1237.getD t1342.toNat []).getD t1349.toNat zS69).f0), .int .i32 (((l1237.getD t1342.toNat []).getD t1349.toNat zS69).f1)] :: os) hS 4 rfl 69 0 (.agg #[.int .i64 (((l1237.getD t1342.toNat []).getD t1349.toNat zS69).f0), .int .i32 (((l1237.getD t1342.toNat []).getD t1349.toNat zS69).f1)]) [.int .i64 (((l1237.getD t1342.toNat []).getD t1349.toNat zS69).f0), .int .i32 (((l1237.getD t1342.toNat []).getD t1349.toNat zS69).f1)] (by kernel_rfl) (by kernel_rfl) (by kernel_rfl) (by kernel_rfl) (by kernel_rfl) (by kernel_rfl) rfl rfl ?_)
        intro w hS
        have hC : Core B [Ass.box 75 g1232 [.slice A1234 l1233.length C1235, .slice (some ad1346) l1237.length C1239], Ass.own 3 (Kd.int .i64) A1234 C1235 l1233] [] _ := ⟨_, _, hS.re [2, 2] [] rfl sub_self⟩
        refine ⟨hC, ?_⟩
        refine ED.quick hN hF hC [13] [4, 5] 0 [(4, .pointer (some ⟨g1331, 0, none⟩)), (5, .bool (true))] #[true, true, true, true, true, true, true, true, true, true, true, true, true, true] (by kernel_rfl) (by kernel_rfl) ?_
        refine ED.done (by kernel_rfl) ?_
        have hS := St.as (os' := Ass.box 75 g1232 [.slice A1234 l1233.length C1235, .slice (some ad1346) l1237.length C1239] :: Ass.own 3 (Kd.int .i64) A1234 C1235 l1233 :: Ass.deep 76 69 kS69 (some ad1346) C1239 l1237 :: Ass.box 69 g1331 [.int .i64 (((l1237.getD t1342.toNat []).getD t1349.toNat zS69).f0), .int .i32 (((l1237.getD t1342.toNat []).getD t1349.toNat zS69).f1)] :: os) (St.close hS 0 2 rfl rfl rfl l1237 (set_getD _ _)) rfl
        refine EQ.to ?_
        refine EQ.keep [4, 5] [(4, .pointer (some ⟨g1331, 0, none⟩)), (5, .bool (true))] (by kernel_rfl) ?_
        exact fun a ha => ⟨ha, (hS.re [3, 3, 3, 3] [] rfl (sub_self))⟩
      · refine EO.callD 56 [.int .i32 a1241] _ 20 (by kernel_rfl) (by kernel_rfl) (by kernel_rfl) (confidantref9_Number.calls hc1350 hS) ?_
        rintro v w ⟨rfl, hS⟩
        have hC : Core B [Ass.box 75 g1232 [.slice A1234 l1233.length C1235, .slice (some ad1346) l1237.length C1239], Ass.own 3 (Kd.int .i64) A1234 C1235 l1233] [] _ := ⟨_, _, hS⟩
        refine ⟨hC, ?_⟩
        refine ED.at' #[true, true, true, true, true, true, true, false, true, true, false, false, false, false] (by kernel_rfl) ?_
        refine ED.one 7 4 #[true, true, true, true, true, true, true, true, true, true, false, false, false, false] (by kernel_rfl) (by kernel_rfl) (by kernel_rfl) (EO.openEl hS 2 ad1346 rfl t1342 h1344 h1345 (fun A1363 C1364 => Ass.box 75 g1232 [.slice A1234 l1233.length C1235, .slice (some ad1346) l1237.length C1239] :: Ass.own 3 (Kd.int .i64) A1234 C1235 l1233 :: Ass.holed 76 69 kS69 (some ad1346) C1239 l1237 t1342.toNat (A1363, (l1237.getD t1342.toNat []).length, C1364) :: Ass.box 69 g1331 [.int .i64 0, .int .i32 0] :: os) 76 18 (by kernel_rfl) (by kernel_rfl) (by kernel_rfl) (by kernel_rfl) (fun _ _ => rfl) ?_)
        intro A1363 C1364 hS
        have hC : Core B [Ass.box 75 g1232 [.slice A1234 l1233.length C1235, .slice (some ad1346) l1237.length C1239], Ass.own 3 (Kd.int .i64) A1234 C1235 l1233] [] _ := ⟨_, _, hS.re [2, 2] [] rfl sub_self⟩
        refine ⟨hC, ?_⟩
        obtain ⟨ad1365, rfl⟩ := St.rd_some hS (Rd.own 0 69 rfl) h1351 h1352
        refine ED.Y hN hF hC 10 3 #[true, true, true, true, true, true, true, true, true, true, true, false, false, false] (by kernel_rfl) (by kernel_rfl) rfl (fun _ _ _ hS => YO.idx 76 2 ad1365 (l1237.getD t1342.toNat []).length C1364 .i64 t1349 21 (by kernel_rfl) (by kernel_rfl) (by kernel_rfl) (by kernel_rfl) h1351 h1352) ?_
        refine ED.one 11 2 #[true, true, true, true, true, true, true, true, true, true, true, true, false, false] (by kernel_rfl) (by kernel_rfl) (by kernel_rfl) (EO.Y (YO.loadEl hS kS69 ad1365 C1364 (l1237.getD t1342.toNat []) (Rd.own 0 69 rfl) zS69 encS69 encS69_of t1349 h1351 h1352 69 2 0 2 rfl (.agg #[.int .i64 (((l1237.getD t1342.toNat []).getD t1349.toNat zS69).f0), .int .i32 (((l1237.getD t1342.toNat []).getD t1349.toNat zS69).f1)]) 22 (by kernel_rfl) (by kernel_rfl) (by kernel_rfl) (by kernel_rfl)) ?_)
        have hC : Core B [Ass.box 75 g1232 [.slice A1234 l1233.length C1235, .slice (some ad1346) l1237.length C1239], Ass.own 3 (Kd.int .i64) A1234 C1235 l1233] [] _ := ⟨_, _, hS.re [2, 2] [] rfl sub_self⟩
        refine ⟨hC, ?_⟩
        refine ED.one 12 1 #[true, true, true, true, true, true, true, true, true, true, true, true, true, false] (by kernel_rfl) (by kernel_rfl) (by kernel_rfl) (EO.storeBox (os' := Ass.own 69 kS69 (some ad1365) C1364 (l1237.getD t1342.toNat []) :: Ass.box 75 g1232 [.slice A1234 l1233.length C1235, .slice (some ad1346) l1237.length C1239] :: Ass.own 3 (Kd.int .i64) A1234 C1235 l1233 :: Ass.holed 76 69 kS69 (some ad1346) C1239 l1237 t1342.toNat ((some ad1365), (l1237.getD t1342.toNat []).length, C1364) :: Ass.box 69 g1331 [.int .i64 (((l1237.getD t1342.toNat []).getD t1349.toNat zS69).f0), .int .i32 (((l1237.getD t1342.toNat []).getD t1349.toNat zS69).f1)] :: os) hS 4 rfl 69 0 (.agg #[.int .i64 (((l1237.getD t1342.toNat []).getD t1349.toNat zS69).f0), .int .i32 (((l1237.getD t1342.toNat []).getD t1349.toNat zS69).f1)]) [.int .i64 (((l1237.getD t1342.toNat []).getD t1349.toNat zS69).f0), .int .i32 (((l1237.getD t1342.toNat []).getD t1349.toNat zS69).f1)] (by kernel_rfl) (by kernel_rfl) (by kernel_rfl) (by kernel_rfl) (by kernel_rfl) (by kernel_rfl) rfl rfl ?_)
        intro w hS
        have hC : Core B [Ass.box 75 g1232 [.slice A1234 l1233.length C1235, .slice (some ad1346) l1237.length C1239], Ass.own 3 (Kd.int .i64) A1234 C1235 l1233] [] _ := ⟨_, _, hS.re [2, 2] [] rfl sub_self⟩
        refine ⟨hC, ?_⟩
        refine ED.quick hN hF hC [13] [4, 5] 0 [(4, .pointer (some ⟨g1331, 0, none⟩)), (5, .bool (true))] #[true, true, true, true, true, true, true, true, true, true, true, true, true, true] (by kernel_rfl) (by kernel_rfl) ?_
        refine ED.done (by kernel_rfl) ?_
        have hS := St.as (os' := Ass.box 75 g1232 [.slice A1234 l1233.length C1235, .slice (some ad1346) l1237.length C1239] :: Ass.own 3 (Kd.int .i64) A1234 C1235 l1233 :: Ass.deep 76 69 kS69 (some ad1346) C1239 l1237 :: Ass.box 69 g1331 [.int .i64 (((l1237.getD t1342.toNat []).getD t1349.toNat zS69).f0), .int .i32 (((l1237.getD t1342.toNat []).getD t1349.toNat zS69).f1)] :: os) (St.close hS 0 2 rfl rfl rfl l1237 (set_getD _ _)) rfl
        refine EQ.to ?_
        refine EQ.keep [4, 5] [(4, .pointer (some ⟨g1331, 0, none⟩)), (5, .bool (true))] (by kernel_rfl) ?_
        exact fun a ha => ⟨ha, (hS.re [3, 3, 3, 3] [] rfl (sub_self))⟩
    · obtain ⟨ha, hS⟩ := hI
      refine EQ.at ?_ a ha
      clear ha a
      refine EQ.code ?_
      refine EW.ret (by kernel_rfl) ?_
      simp only [Option.some.injEq, Prod.mk.injEq] at H
      obtain ⟨rfl, rfl, rfl⟩ := H
      exact EQ.leave2 hS (.cell 4 69) (.tmp 5) (.agg #[.int .i64 (((l1237.getD t1342.toNat []).getD t1349.toNat zS69).f0), .int .i32 (((l1237.getD t1342.toNat []).getD t1349.toNat zS69).f1)]) (.bool (true)) (by kernel_rfl) ⟨3, 69, g1331, [.int .i64 (((l1237.getD t1342.toNat []).getD t1349.toNat zS69).f0), .int .i32 (((l1237.getD t1342.toNat []).getD t1349.toNat zS69).f1)], 0, 2, rfl, (by kernel_rfl), (by kernel_rfl)⟩ (oneTmp (by kernel_rfl)) ⟨_, rfl, rfl, (hS.re [2, 2, 2] [3] rfl (sub_self))⟩
  · rw [if_neg h1341] at H
    refine EW.seq (x := Cd39.r.l.r.l.l) (y := Cd39.r.l.r.l.r) (by kernel_rfl) ?_
    refine EW.region (id := 2) (ops := Cd39.r.l.r.l.l.ops) (by kernel_rfl) ?_
    refine EL.quick 1 [4, 10] [(4, .pointer (some ⟨g1331, 0, none⟩)), (10, .agg #[.int .i64 0, .int .i32 0])] (by kernel_rfl) ?_
    refine EL.of (EO.storeBox (os' := Ass.box 75 g1232 [.slice A1234 l1233.length C1235, .slice A1238 l1237.length C1239] :: Ass.own 3 (Kd.int .i64) A1234 C1235 l1233 :: Ass.deep 76 69 kS69 A1238 C1239 l1237 :: Ass.box 69 g1331 [.int .i64 0, .int .i32 0] :: os) hS 3 rfl 69 0 (.agg #[.int .i64 0, .int .i32 0]) [.int .i64 0, .int .i32 0] (by kernel_rfl) (by kernel_rfl) (by kernel_rfl) (by kernel_rfl) (by kernel_rfl) (by kernel_rfl) rfl rfl ?_)
    intro w hS
    refine EL.quick 1 [4, 5] [(4, .pointer (some ⟨g1331, 0, none⟩)), (5, .bool (false))] (by kernel_rfl) ?_
    refine EL.done (by kernel_rfl) ?_
    refine EQ.code ?_
    refine EW.ret (by kernel_rfl) ?_
    refine EQ.ret ?_
    simp only [Option.some.injEq, Prod.mk.injEq] at H
    obtain ⟨rfl, rfl, rfl⟩ := H
    exact EQ.leave2 hS (.cell 4 69) (.tmp 5) (.agg #[.int .i64 0, .int .i32 0]) (.bool (false)) (by kernel_rfl) ⟨3, 69, g1331, [.int .i64 0, .int .i32 0], 0, 2, rfl, (by kernel_rfl), (by kernel_rfl)⟩ (oneTmp (by kernel_rfl)) ⟨_, rfl, rfl, (hS.re [2, 2, 2] [3] rfl (sub_self))⟩

/-! ### (*confidant/confidantref12.Arena).Set: function 41 -/
def confidantref12_Arena_Set.f (K : Nat) (l1390 : List Int) (l1394 : List (List S69)) (a1398 : Int) (a1399 : Int) : Option (List (List S69) × Bool) := b1 (confidantref12_Arena_there.f K l1390 l1394 a1398) fun (t1434 : Bool) => (if t1434 = true then (b1 (confidantref9_Label.f K a1398) fun (t1437 : Int) => (if 0 ≤ t1437 then (if t1437 < (l1394.length : Int) then (b1 (confidantref9_Number.f K a1398) fun (t1444 : Int) => (if 0 ≤ t1444 then (if t1444 < ((l1394.getD t1437.toNat []).length : Int) then (lt ((l1394.getD t1437.toNat []).set t1444.toNat (⟨((l1394.getD t1437.toNat []).getD t1444.toNat zS69).f0, a1399⟩ : S69)) fun l1449 => (some ((l1394.set t1437.toNat l1449), true))) else none) else none)) else none) else none)) else (some (l1394, false)))
set_option maxRecDepth 100000 in
theorem confidantref12_Arena_Set.calls {K : Nat} {l1390 : List Int} {l1394 : List (List S69)} {a1398 : Int} {a1399 : Int} {g1389 : Nat} {A1391 : Option Addr} {C1392 : Nat} {A1395 : Option Addr} {C1396 : Nat} {x1423 : List (List S69)} {x1426 : Bool} {B w : World} {os : List Ass} {rs : List Ro} (H : confidantref12_Arena_Set.f K l1390 l1394 a1398 a1399 = some (x1423, x1426)) (hS : St B w (Ass.box 75 g1389 [.slice A1391 l1390.length C1392, .slice A1395 l1394.length C1396] :: Ass.own 3 (Kd.int .i64) A1391 C1392 l1390 :: Ass.deep 76 69 kS69 A1395 C1396 l1394 :: os) (rs)) :
    Calls Try.prog 41 [.pointer (some ⟨g1389, 0, none⟩), .int .i32 a1398, .int .i32 a1399].toArray w (fun en w' => ∃ v, en = .returned v ∧ ∃ A1424 : Option Addr, ∃ C1425 : Nat, v = .bool (x1426) ∧ St B w' (Ass.box 75 g1389 [.slice A1391 l1390.length C1392, .slice A1424 x1423.length C1425] :: Ass.own 3 (Kd.int .i64) A1391 C1392 l1390 :: Ass.deep 76 69 kS69 A1424 C1425 x1423 :: os) (rs)) := by
  unfold confidantref12_Arena_Set.f at H
  refine calls_of_EW (args := [.pointer (some ⟨g1389, 0, none⟩), .int .i32 a1398, .int .i32 a1399]) (c := Cd41) 24 Try.func41 (by kernel_rfl) (by kernel_rfl) (by kernel_rfl) ?_
  refine EW.seq (x := Cd41.l) (y := Cd41.r) (by kernel_rfl) ?_
  refine EW.region (id := 0) (ops := Cd41.l.ops) (by kernel_rfl) ?_
  refine EL.quick 1 [0, 1, 2] [(0, .pointer (some ⟨g1389, 0, none⟩)), (1, .int .i32 a1398), (2, .int .i32 a1399)] (by kernel_rfl) ?_
  refine EL.done (by kernel_rfl) ?_
  refine EQ.code ?_
  refine EW.seq (x := Cd41.r.l) (y := Cd41.r.r) (by kernel_rfl) ?_
  refine EW.seq (x := Cd41.r.l.l) (y := Cd41.r.l.r) (by kernel_rfl) ?_
  refine EW.region (id := 1) (ops := Cd41.r.l.l.ops) (by kernel_rfl) ?_
  refine EL.quick 2 [0, 1, 2, 7, 8] [(0, .pointer (some ⟨g1389, 0, none⟩)), (1, .int .i32 a1398), (2, .int .i32 a1399), (7, .pointer (some ⟨g1389, 0, none⟩)), (8, .int .i32 a1398)] (by kernel_rfl) ?_
  obtain ⟨t1434, hc1435, H⟩ := b1_out H
  refine EL.of (EO.callD 54 [.pointer (some ⟨g1389, 0, none⟩), .int .i32 a1398] _ 9 (by kernel_rfl) (by kernel_rfl) (by kernel_rfl) (confidantref12_Arena_there.calls hc1435 hS) ?_)
  rintro v w ⟨rfl, hS⟩
  refine EL.quick 1 [0, 1, 2, 10] [(0, .pointer (some ⟨g1389, 0, none⟩)), (1, .int .i32 a1398), (2, .int .i32 a1399), (10, .bool (!(t1434)))] (by kernel_rfl) ?_
  refine EL.done (by kernel_rfl) ?_
  refine EQ.code ?_
  refine EW.condQ (b := !(t1434)) (o := (.tmp 10)) (x := Cd41.r.l.r.l) (y := Cd41.r.l.r.r) (t1434 = true) (false) (by kernel_rfl) (by kernel_rfl) ⟨fun h => (by rw [h] <;> rfl), fun h => (by rw [Bool.eq_false_iff.2 h] <;> rfl)⟩ (fun h1436 => ?_) (fun h1436 => ?_)
  · rw [if_pos h1436] at H
    refine EW.skip (by kernel_rfl) ?_
    refine EQ.code ?_
    refine EW.seq (x := Cd41.r.r.l) (y := Cd41.r.r.r) (by kernel_rfl) ?_
    obtain ⟨t1437, hc1438, H⟩ := b1_out H
    obtain ⟨h1439, H⟩ := ite_in H
    obtain ⟨h1440, H⟩ := ite_in H
    obtain ⟨ad1441, rfl⟩ := St.deep_some hS 2 rfl h1439 h1440
    obtain ⟨t1444, hc1445, H⟩ := b1_out H
    obtain ⟨h1446, H⟩ := ite_in H
    obtain ⟨h1447, H⟩ := ite_in H
    obtain ⟨l1449, hl1449, H⟩ := lt_out H
    refine EW.meet (id := 3) (ops := Cd41.r.r.l.ops) (fun a w => Sat 24 [] a ∧ St B w (Ass.box 75 g1389 [.slice A1391 l1390.length C1392, .slice (some ad1441) (l1394.set t1437.toNat l1449).length C1396] :: Ass.own 3 (Kd.int .i64) A1391 C1392 l1390 :: Ass.deep 76 69 kS69 (some ad1441) C1396 (l1394.set t1437.toNat l1449) :: os) (rs)) (by kernel_rfl) ?_ (fun a w hI => ?_)
    · have hS := hS.drew
      refine EW.draw (B := B) (id := 3) (ops := Cd41.r.r.l.ops) [Ass.box 75 g1389 [.slice A1391 l1390.length C1392, .slice (some ad1441) l1394.length C1396], Ass.own 3 (Kd.int .i64) A1391 C1392 l1390] [] (by kernel_rfl) (by kernel_rfl) ?_
      have hN : Region.noSelect Cd41.r.r.l.ops = true := (by kernel_rfl)
      have hF : freeAll Cd41.r.r.l.ops = true := (by kernel_rfl)
      have hC : Core B [Ass.box 75 g1389 [.slice A1391 l1390.length C1392, .slice (some ad1441) l1394.length C1396], Ass.own 3 (Kd.int .i64) A1391 C1392 l1390] [] _ := ⟨_, _, hS⟩
      refine ED.quick hN hF hC [0, 1, 2, 4, 8, 10] [13, 15, 19, 21] 8 [(13, .pointer (some ⟨g1389, 1, none⟩)), (15, .int .i32 a1398), (19, .int .i32 a1398), (21, .int .i32 a1399)] #[true, true, true, false, true, false, false, false, true, false, true, false, false, false] (by kernel_rfl) (by kernel_rfl) ?_
      refine ED.Y hN hF hC 3 7 #[true, true, true, true, true, false, false, false, true, false, true, false, false, false] (by kernel_rfl) (by kernel_rfl) rfl (fun _ _ _ hS => YO.loadBox hS 0 rfl 73 1 1 (.slice (some ad1441) l1394.length C1396) 14 (by kernel_rfl) (by kernel_rfl) (by kernel_rfl) (by kernel_rfl)) ?_
      refine ED.one 5 6 #[true, true, true, true, true, true, false, false, true, false, true, false, false, false] (by kernel_rfl) (by kernel_rfl) (by kernel_rfl) (EO.callD 55 [.int .i32 a1398] _ 16 (by kernel_rfl) (by kernel_rfl) (by kernel_rfl) (confidantref9_Label.calls hc1438 hS) ?_)
      rintro v w ⟨rfl, hS⟩
      have hC : Core B [Ass.box 75 g1389 [.slice A1391 l1390.length C1392, .slice (some ad1441) l1394.length C1396], Ass.own 3 (Kd.int .i64) A1391 C1392 l1390] [] _ := ⟨_, _, hS⟩
      refine ⟨hC, ?_⟩
      refine ED.Y hN hF hC 6 5 #[true, true, true, true, true, true, true, false, true, false, true, false, false, false] (by kernel_rfl) (by kernel_rfl) rfl (fun _ _ _ hS => YO.idx 73 1 ad1441 l1394.length C1396 .i64 t1437 17 (by kernel_rfl) (by kernel_rfl) (by kernel_rfl) (by kernel_rfl) h1439 h1440) ?_
      refine ED.two 7 9 4 (by kernel_rfl) (by kernel_rfl) ?_ ?_
      · refine EO.openEl hS 2 ad1441 rfl t1437 h1439 h1440 (fun A1456 C1457 => Ass.box 75 g1389 [.slice A1391 l1390.length C1392, .slice (some ad1441) l1394.length C1396] :: Ass.own 3 (Kd.int .i64) A1391 C1392 l1390 :: Ass.holed 76 69 kS69 (some ad1441) C1396 l1394 t1437.toNat (A1456, (l1394.getD t1437.toNat []).length, C1457) :: os) 76 18 (by kernel_rfl) (by kernel_rfl) (by kernel_rfl) (by kernel_rfl) (fun _ _ => rfl) ?_
        intro A1456 C1457 hS
        have hC : Core B [Ass.box 75 g1389 [.slice A1391 l1390.length C1392, .slice (some ad1441) l1394.length C1396], Ass.own 3 (Kd.int .i64) A1391 C1392 l1390] [] _ := ⟨_, _, hS.re [2, 2] [] rfl sub_self⟩
        refine ⟨hC, ?_⟩
        refine ED.at' #[true, true, true, true, true, true, true, true, true, false, true, false, false, false] (by kernel_rfl) ?_
        refine ED.one 9 3 #[true, true, true, true, true, true, true, true, true, true, true, false, false, false] (by kernel_rfl) (by kernel_rfl) (by kernel_rfl) (EO.callD 56 [.int .i32 a1398] _ 20 (by kernel_rfl) (by kernel_rfl) (by kernel_rfl) (confidantref9_Number.calls hc1445 hS) ?_)
        rintro v w ⟨rfl, hS⟩
        have hC : Core B [Ass.box 75 g1389 [.slice A1391 l1390.length C1392, .slice (some ad1441) l1394.length C1396], Ass.own 3 (Kd.int .i64) A1391 C1392 l1390] [] _ := ⟨_, _, hS.re [2, 2] [] rfl sub_self⟩
        refine ⟨hC, ?_⟩
        obtain ⟨ad1458, rfl⟩ := St.rd_some hS (Rd.own 0 69 rfl) h1446 h1447
        refine ED.Y hN hF hC 11 2 #[true, true, true, true, true, true, true, true, true, true, true, true, false, false] (by kernel_rfl) (by kernel_rfl) rfl (fun _ _ _ hS => YO.idx 76 2 ad1458 (l1394.getD t1437.toNat []).length C1457 .i64 t1444 22 (by kernel_rfl) (by kernel_rfl) (by kernel_rfl) (by kernel_rfl) h1446 h1447) ?_
        refine ED.quick hN hF hC [12] [21, 23] 1 [(21, .int .i32 a1399), (23, .pointer (some ((ad1458.add (t1444.toNat * 2)).add 1)))] #[true, true, true, true, true, true, true, true, true, true, true, true, true, false] (by kernel_rfl) (by kernel_rfl) ?_
        refine ED.one 13 0 #[true, true, true, true, true, true, true, true, true, true, true, true, true, true] (by kernel_rfl) (by kernel_rfl) (by kernel_rfl) (EO.storeEl hS 0 kS69 69 ad1458 C1457 (l1394.getD t1437.toNat []) rfl t1444 h1446 h1447 zS69 21 2 1 rfl (.int .i32 a1399) (⟨((l1394.getD t1437.toNat []).getD t1444.toNat zS69).f0, a1399⟩ : S69) l1449 hl1449 (Ass.own 69 kS69 (some ad1458) C1457 l1449 :: Ass.box 75 g1389 [.slice A1391 l1390.length C1392, .slice (some ad1441) l1394.length C1396] :: Ass.own 3 (Kd.int .i64) A1391 C1392 l1390 :: Ass.holed 76 69 kS69 (some ad1441) C1396 l1394 t1437.toNat ((some ad1458), (l1394.getD t1437.toNat []).length, C1457) :: os) (by kernel_rfl) (by kernel_rfl) (by kernel_rfl) (by kernel_rfl) (by kernel_rfl) (by kernel_rfl) (fun w G vs hr h => (by have e := encS69_of _ _ _ _ h; subst e; exact ⟨[.int .i64 (((l1394.getD t1437.toNat []).getD t1444.toNat zS69).f0)], [.int .i32 a1399], rfl, rfl, ⟨[.int .i32 a1399], [], rfl, rfl, rfl⟩⟩)) rfl ?_)
        intro w hS
        have hC : Core B [Ass.box 75 g1389 [.slice A1391 l1390.length C1392, .slice (some ad1441) l1394.length C1396], Ass.own 3 (Kd.int .i64) A1391 C1392 l1390] [] _ := ⟨_, _, hS.re [2, 2] [] rfl sub_self⟩
        refine ⟨hC, ?_⟩
        refine ED.done (by kernel_rfl) ?_
        have hS := St.as (os' := Ass.box 75 g1389 [.slice A1391 l1390.length C1392, .slice (some ad1441) l1394.length C1396] :: Ass.own 3 (Kd.int .i64) A1391 C1392 l1390 :: Ass.deep 76 69 kS69 (some ad1441) C1396 (l1394.set t1437.toNat l1449) :: os) (St.close hS 0 2 rfl rfl (len_set rfl hl1449) (l1394.set t1437.toNat l1449) rfl) rfl
        have hS := St.as hS (os' := Ass.box 75 g1389 [.slice A1391 l1390.length C1392, .slice (some ad1441) (l1394.set t1437.toNat l1449).length C1396] :: Ass.own 3 (Kd.int .i64) A1391 C1392 l1390 :: Ass.deep 76 69 kS69 (some ad1441) C1396 (l1394.set t1437.toNat l1449) :: os) (by simp only [List.length_set])
        refine EQ.to ?_
        refine EQ.keep [] [] (by kernel_rfl) ?_
        exact fun a ha => ⟨ha, (hS.re [2, 2, 2] [] rfl (sub_self))⟩
      · refine EO.callD 56 [.int .i32 a1398] _ 20 (by kernel_rfl) (by kernel_rfl) (by kernel_rfl) (confidantref9_Number.calls hc1445 hS) ?_
        rintro v w ⟨rfl, hS⟩
        have hC : Core B [Ass.box 75 g1389 [.slice A1391 l1390.length C1392, .slice (some ad1441) l1394.length C1396], Ass.own 3 (Kd.int .i64) A1391 C1392 l1390] [] _ := ⟨_, _, hS⟩
        refine ⟨hC, ?_⟩
        refine ED.at' #[true, true, true, true, true, true, true, false, true, true, true, false, false, false] (by kernel_rfl) ?_
        refine ED.one 7 3 #[true, true, true, true, true, true, true, true, true, true, true, false, false, false] (by kernel_rfl) (by kernel_rfl) (by kernel_rfl) (EO.openEl hS 2 ad1441 rfl t1437 h1439 h1440 (fun A1459 C1460 => Ass.box 75 g1389 [.slice A1391 l1390.length C1392, .slice (some ad1441) l1394.length C1396] :: Ass.own 3 (Kd.int .i64) A1391 C1392 l1390 :: Ass.holed 76 69 kS69 (some ad1441) C1396 l1394 t1437.toNat (A1459, (l1394.getD t1437.toNat []).length, C1460) :: os) 76 18 (by kernel_rfl) (by kernel_rfl) (by kernel_rfl) (by kernel_rfl) (fun _ _ => rfl) ?_)
        intro A1459 C1460 hS
        have hC : Core B [Ass.box 75 g1389 [.slice A1391 l1390.length C1392, .slice (some ad1441) l1394.length C1396], Ass.own 3 (Kd.int .i64) A1391 C1392 l1390] [] _ := ⟨_, _, hS.re [2, 2] [] rfl sub_self⟩
        refine ⟨hC, ?_⟩
        obtain ⟨ad1461, rfl⟩ := St.rd_some hS (Rd.own 0 69 rfl) h1446 h1447
        refine ED.Y hN hF hC 11 2 #[true, true, true, true, true, true, true, true, true, true, true, true, false, false] (by kernel_rfl) (by kernel_rfl) rfl (fun _ _ _ hS => YO.idx 76 2 ad1461 (l1394.getD t1437.toNat []).length C1460 .i64 t1444 22 (by kernel_rfl) (by kernel_rfl) (by kernel_rfl) (by kernel_rfl) h1446 h1447) ?_
        refine ED.quick hN hF hC [12] [21, 23] 1 [(21, .int .i32 a1399), (23, .pointer (some ((ad1461.add (t1444.toNat * 2)).add 1)))] #[true, true, true, true, true, true, true, true, true, true, true, true, true, false] (by kernel_rfl) (by kernel_rfl) ?_
        refine ED.one 13 0 #[true, true, true, true, true, true, true, true, true, true, true, true, true, true] (by kernel_rfl) (by kernel_rfl) (by kernel_rfl) (EO.storeEl hS 0 kS69 69 ad1461 C1460 (l1394.getD t1437.toNat []) rfl t1444 h1446 h1447 zS69 21 2 1 rfl (.int .i32 a1399) (⟨((l1394.getD t1437.toNat []).getD t1444.toNat zS69).f0, a1399⟩ : S69) l1449 hl1449 (Ass.own 69 kS69 (some ad1461) C1460 l1449 :: Ass.box 75 g1389 [.slice A1391 l1390.length C1392, .slice (some ad1441) l1394.length C1396] :: Ass.own 3 (Kd.int .i64) A1391 C1392 l1390 :: Ass.holed 76 69 kS69 (some ad1441) C1396 l1394 t1437.toNat ((some ad1461), (l1394.getD t1437.toNat []).length, C1460) :: os) (by kernel_rfl) (by kernel_rfl) (by kernel_rfl) (by kernel_rfl) (by kernel_rfl) (by kernel_rfl) (fun w G vs hr h => (by have e := encS69_of _ _ _ _ h; subst e; exact ⟨[.int .i64 (((l1394.getD t1437.toNat []).getD t1444.toNat zS69).f0)], [.int .i32 a1399], rfl, rfl, ⟨[.int .i32 a1399], [], rfl, rfl, rfl⟩⟩)) rfl ?_)
        intro w hS
        have hC : Core B [Ass.box 75 g1389 [.slice A1391 l1390.length C1392, .slice (some ad1441) l1394.length C1396], Ass.own 3 (Kd.int .i64) A1391 C1392 l1390] [] _ := ⟨_, _, hS.re [2, 2] [] rfl sub_self⟩
        refine ⟨hC, ?_⟩
        refine ED.done (by kernel_rfl) ?_
        have hS := St.as (os' := Ass.box 75 g1389 [.slice A1391 l1390.length C1392, .slice (some ad1441) l1394.length C1396] :: Ass.own 3 (Kd.int .i64) A1391 C1392 l1390 :: Ass.deep 76 69 kS69 (some ad1441) C1396 (l1394.set t1437.toNat l1449) :: os) (St.close hS 0 2 rfl rfl (len_set rfl hl1449) (l1394.set t1437.toNat l1449) rfl) rfl
        have hS := St.as hS (os' := Ass.box 75 g1389 [.slice A1391 l1390.length C1392, .slice (some ad1441) (l1394.set t1437.toNat l1449).length C1396] :: Ass.own 3 (Kd.int .i64) A1391 C1392 l1390 :: Ass.deep 76 69 kS69 (some ad1441) C1396 (l1394.set t1437.toNat l1449) :: os) (by simp only [List.length_set])
        refine EQ.to ?_
        refine EQ.keep [] [] (by kernel_rfl) ?_
        exact fun a ha => ⟨ha, (hS.re [2, 2, 2] [] rfl (sub_self))⟩
    · obtain ⟨ha, hS⟩ := hI
      refine EQ.at ?_ a ha
      clear ha a
      refine EQ.code ?_
      refine EW.seq (x := Cd41.r.r.r.l) (y := Cd41.r.r.r.r) (by kernel_rfl) ?_
      refine EW.region (id := 4) (ops := Cd41.r.r.r.l.ops) (by kernel_rfl) ?_
      refine EL.quick 1 [6] [(6, .bool (true))] (by kernel_rfl) ?_
      refine EL.done (by kernel_rfl) ?_
      refine EQ.code ?_
      refine EW.ret (by kernel_rfl) ?_
      simp only [Option.some.injEq, Prod.mk.injEq] at H
      obtain ⟨rfl, rfl⟩ := H
      exact EQ.leave (.bool (true)) (by kernel_rfl) ⟨_, rfl, (some ad1441), C1396, rfl, (hS.re [2, 2, 2] [] rfl (sub_self))⟩
  · rw [if_neg h1436] at H
    refine EW.seq (x := Cd41.r.l.r.l.l) (y := Cd41.r.l.r.l.r) (by kernel_rfl) ?_
    refine EW.region (id := 2) (ops := Cd41.r.l.r.l.l.ops) (by kernel_rfl) ?_
    refine EL.quick 1 [6] [(6, .bool (false))] (by kernel_rfl) ?_
    refine EL.done (by kernel_rfl) ?_
    refine EQ.code ?_
    refine EW.ret (by kernel_rfl) ?_
    refine EQ.ret ?_
    simp only [Option.some.injEq, Prod.mk.injEq] at H
    obtain ⟨rfl, rfl⟩ := H
    exact EQ.leave (.bool (false)) (by kernel_rfl) ⟨_, rfl, A1395, C1396, rfl, (hS.re [2, 2, 2] [] rfl (sub_self))⟩

/-! ### (*confidant/confidantref12.Arena).Count: function 43 -/
def confidantref12_Arena_Count.f (K : Nat) (l1675 : List Int) (l1679 : List (List S69)) (a1683 : Int) : Option Int := lt (fun (x1714 : Bool) => (if x1714 = true then (some 0) else (if 0 ≤ a1683 then (if a1683 < (l1679.length : Int) then (some ((l1679.getD a1683.toNat []).length : Int)) else none) else none))) fun j1715 => (if a1683 < 0 then (j1715 true) else (j1715 (decide (a1683 ≥ (l1679.length : Int)))))
set_option maxRecDepth 100000 in
theorem confidantref12_Arena_Count.calls {K : Nat} {l1675 : List Int} {l1679 : List (List S69)} {a1683 : Int} {g1674 : Nat} {A1676 : Option Addr} {C1677 : Nat} {A1680 : Option Addr} {C1681 : Nat} {x1703 : Int} {B w : World} {os : List Ass} {rs : List Ro} (H : confidantref12_Arena_Count.f K l1675 l1679 a1683 = some x1703) (hS : St B w (Ass.box 75 g1674 [.slice A1676 l1675.length C1677, .slice A1680 l1679.length C1681] :: Ass.own 3 (Kd.int .i64) A1676 C1677 l1675 :: Ass.deep 76 69 kS69 A1680 C1681 l1679 :: os) (rs)) :
    Calls Try.prog 43 [.pointer (some ⟨g1674, 0, none⟩), .int .i64 a1683].toArray w (fun en w' => ∃ v, en = .returned v ∧ v = .int .i64 x1703 ∧ St B w' (Ass.box 75 g1674 [.slice A1676 l1675.length C1677, .slice A1680 l1679.length C1681] :: Ass.own 3 (Kd.int .i64) A1676 C1677 l1675 :: Ass.deep 76 69 kS69 A1680 C1681 l1679 :: os) (rs)) := by
  unfold confidantref12_Arena_Count.f at H
  refine calls_of_EW (args := [.pointer (some ⟨g1674, 0, none⟩), .int .i64 a1683]) (c := Cd43) 24 Try.func43 (by kernel_rfl) (by kernel_rfl) (by kernel_rfl) ?_
  refine EW.seq (x := Cd43.l) (y := Cd43.r) (by kernel_rfl) ?_
  refine EW.region (id := 0) (ops := Cd43.l.ops) (by kernel_rfl) ?_
  refine EL.quick 1 [0, 1] [(0, .pointer (some ⟨g1674, 0, none⟩)), (1, .int .i64 a1683)] (by kernel_rfl) ?_
  refine EL.done (by kernel_rfl) ?_
  refine EQ.code ?_
  refine EW.seq (x := Cd43.r.l) (y := Cd43.r.r) (by kernel_rfl) ?_
  obtain ⟨j1715, hj1715, H⟩ := lt_out H
  refine EW.cut (x := Cd43.r.l.l) (y := Cd43.r.l.r) (fun a w => ∃ x1714 : Bool, Sat 24 [(0, .pointer (some ⟨g1674, 0, none⟩)), (1, .int .i64 a1683), (15, .bool (x1714))] a ∧ St B w (Ass.box 75 g1674 [.slice A1676 l1675.length C1677, .slice A1680 l1679.length C1681] :: Ass.own 3 (Kd.int .i64) A1676 C1677 l1675 :: Ass.deep 76 69 kS69 A1680 C1681 l1679 :: os) (rs) ∧ j1715 x1714 = some x1703) (by kernel_rfl) ?_ (fun a w hI => ?_)
  · refine EW.region (id := 1) (ops := Cd43.r.l.l.ops) (by kernel_rfl) ?_
    refine EL.quick 3 [0, 1, 7] [(0, .pointer (some ⟨g1674, 0, none⟩)), (1, .int .i64 a1683), (7, .bool (decide (a1683 < 0)))] (by kernel_rfl) ?_
    by_cases h1716 : a1683 < 0
    · rw [if_pos h1716] at H
      refine EL.keep [0, 1, 7] [(0, .pointer (some ⟨g1674, 0, none⟩)), (1, .int .i64 a1683), (7, .bool (decide (a1683 < 0)))] (by kernel_rfl) ?_
      refine EL.as' [(0, .pointer (some ⟨g1674, 0, none⟩)), (1, .int .i64 a1683), (7, .bool (true))] (by simp only [dec_t h1716, Bool.not_true, Bool.not_false]) ?_
      refine EL.quick 8 [0, 1, 15] [(0, .pointer (some ⟨g1674, 0, none⟩)), (1, .int .i64 a1683), (15, .bool (true))] (by kernel_rfl) ?_
      refine EL.done (by kernel_rfl) ?_
      refine EQ.to ?_
      refine EQ.keep [0, 1, 15] [(0, .pointer (some ⟨g1674, 0, none⟩)), (1, .int .i64 a1683), (15, .bool (true))] (by kernel_rfl) ?_
      exact fun a ha => ⟨true, ha, (hS.re [2, 2, 2] [] rfl (sub_self)), H⟩
    · rw [if_neg h1716] at H
      refine EL.keep [0, 1, 7] [(0, .pointer (some ⟨g1674, 0, none⟩)), (1, .int .i64 a1683), (7, .bool (decide (a1683 < 0)))] (by kernel_rfl) ?_
      refine EL.as' [(0, .pointer (some ⟨g1674, 0, none⟩)), (1, .int .i64 a1683), (7, .bool (false))] (by simp only [dec_f h1716, Bool.not_true, Bool.not_false]) ?_
      refine EL.quick 4 [0, 1, 7, 8, 11] [(0, .pointer (some ⟨g1674, 0, none⟩)), (1, .int .i64 a1683), (7, .bool (false)), (8, .int .i64 a1683), (11, .pointer (some ⟨g1674, 1, none⟩))] (by kernel_rfl) ?_
      refine EL.of (EO.Y (YO.loadBox hS 0 rfl 73 1 1 (.slice A1680 l1679.length C1681) 12 (by kernel_rfl) (by kernel_rfl) (by kernel_rfl) (by kernel_rfl)) ?_)
      refine EL.quick 3 [0, 1, 15] [(0, .pointer (some ⟨g1674, 0, none⟩)), (1, .int .i64 a1683), (15, .bool (decide (a1683 ≥ (l1679.length : Int))))] (by kernel_rfl) ?_
      refine EL.done (by kernel_rfl) ?_
      refine EQ.to ?_
      refine EQ.keep [0, 1, 15] [(0, .pointer (some ⟨g1674, 0, none⟩)), (1, .int .i64 a1683), (15, .bool (decide (a1683 ≥ (l1679.length : Int))))] (by kernel_rfl) ?_
      exact fun a ha => ⟨decide (a1683 ≥ (l1679.length : Int)), ha, (hS.re [2, 2, 2] [] rfl (sub_self)), H⟩
  · obtain ⟨x1714, ha, hS, H⟩ := hI
    rw [hj1715] at H
    (try dsimp only at H)
    refine EW.at ?_ a ha
    clear ha a
    refine EW.condP' (o := (.tmp 15)) (x := Cd43.r.l.r.l) (y := Cd43.r.l.r.r) (x1714) (by kernel_rfl) (by kernel_rfl) (fun h1717 => ?_) (fun h1717 => ?_)
    · rw [if_pos h1717] at H
      refine EW.seq (x := Cd43.r.l.r.l.l) (y := Cd43.r.l.r.l.r) (by kernel_rfl) ?_
      refine EW.region (id := 2) (ops := Cd43.r.l.r.l.l.ops) (by kernel_rfl) ?_
      refine EL.quick 1 [4] [(4, .int .i64 0)] (by kernel_rfl) ?_
      refine EL.done (by kernel_rfl) ?_
      refine EQ.code ?_
      refine EW.ret (by kernel_rfl) ?_
      refine EQ.ret ?_
      obtain rfl := Option.some.inj H
      exact EQ.leave (.int .i64 0) (by kernel_rfl) ⟨_, rfl, rfl, (hS.re [2, 2, 2] [] rfl (sub_self))⟩
    · rw [if_neg h1717] at H
      refine EW.skip (by kernel_rfl) ?_
      refine EQ.code ?_
      refine EW.seq (x := Cd43.r.r.l) (y := Cd43.r.r.r) (by kernel_rfl) ?_
      refine EW.region (id := 3) (ops := Cd43.r.r.l.ops) (by kernel_rfl) ?_
      refine EL.quick 3 [1, 18] [(1, .int .i64 a1683), (18, .pointer (some ⟨g1674, 1, none⟩))] (by kernel_rfl) ?_
      refine EL.of (EO.Y (YO.loadBox hS 0 rfl 73 1 1 (.slice A1680 l1679.length C1681) 19 (by kernel_rfl) (by kernel_rfl) (by kernel_rfl) (by kernel_rfl)) ?_)
      refine EL.quick 1 [19, 20] [(19, .slice A1680 l1679.length C1681), (20, .int .i64 a1683)] (by kernel_rfl) ?_
      obtain ⟨h1718, H⟩ := ite_in H
      obtain ⟨h1719, H⟩ := ite_in H
      obtain ⟨ad1720, rfl⟩ := St.deep_some hS 2 rfl h1718 h1719
      refine EL.of (EO.Y (YO.idx 73 1 ad1720 l1679.length C1681 .i64 a1683 21 (by kernel_rfl) (by kernel_rfl) (by kernel_rfl) (by kernel_rfl) h1718 h1719) ?_)
      refine EL.of (EO.openEl hS 2 ad1720 rfl a1683 h1718 h1719 (fun A1721 C1722 => Ass.box 75 g1674 [.slice A1676 l1675.length C1677, .slice (some ad1720) l1679.length C1681] :: Ass.own 3 (Kd.int .i64) A1676 C1677 l1675 :: Ass.holed 76 69 kS69 (some ad1720) C1681 l1679 a1683.toNat (A1721, (l1679.getD a1683.toNat []).length, C1722) :: os) 76 22 (by kernel_rfl) (by kernel_rfl) (by kernel_rfl) (by kernel_rfl) (fun _ _ => rfl) ?_)
      intro A1721 C1722 hS
      refine EL.quick 2 [4] [(4, .int .i64 ((l1679.getD a1683.toNat []).length : Int))] (by kernel_rfl) ?_
      refine EL.done (by kernel_rfl) ?_
      refine EQ.code ?_
      refine EW.ret (by kernel_rfl) ?_
      have hS := St.as (os' := Ass.box 75 g1674 [.slice A1676 l1675.length C1677, .slice (some ad1720) l1679.length C1681] :: Ass.own 3 (Kd.int .i64) A1676 C1677 l1675 :: Ass.deep 76 69 kS69 (some ad1720) C1681 l1679 :: os) (St.close hS 0 2 rfl rfl rfl l1679 (set_getD _ _)) rfl
      obtain rfl := Option.some.inj H
      exact EQ.leave (.int .i64 ((l1679.getD a1683.toNat []).length : Int)) (by kernel_rfl) ⟨_, rfl, rfl, (hS.re [2, 2, 2] [] rfl (sub_self))⟩

end Go.Proofs.Ytifnjijlbcacoaa.G
