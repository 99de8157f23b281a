import Derived.Test.YtjfnejcanlkknaaG1
namespace Go.Proofs.Ytjfnejcanlkknaa.G
open Go Go.Fw Go.RowKit Go.Proofs
set_option linter.unusedVariables false
set_option linter.unusedSimpArgs false

/-! ### confidant/confidantref9.SameAll: function 26 -/
def confidantref9_SameAll.l0 (K : Nat) (l3293 : List S37) (l3296 : List S37) : Nat → Int → Option Bool
  | 0, _ => none
  | n + 1, x3447 => if x3447 < (l3293.length : Int) then (if 0 ≤ x3447 then (if x3447 < (l3296.length : Int) then (b1 (confidantref9_Same.f K ((l3293.getD x3447.toNat zS37).f0) ((l3293.getD x3447.toNat zS37).f1) ((l3293.getD x3447.toNat zS37).f2) ((l3293.getD x3447.toNat zS37).f3) ((l3293.getD x3447.toNat zS37).f4.f0) ((l3293.getD x3447.toNat zS37).f4.f1) ((l3293.getD x3447.toNat zS37).f4.f2) ((l3293.getD x3447.toNat zS37).f4.f3) ((l3293.getD x3447.toNat zS37).f5) ((l3293.getD x3447.toNat zS37).f6) ((l3293.getD x3447.toNat zS37).f7) ((l3293.getD x3447.toNat zS37).f8) ((l3296.getD x3447.toNat zS37).f0) ((l3296.getD x3447.toNat zS37).f1) ((l3296.getD x3447.toNat zS37).f2) ((l3296.getD x3447.toNat zS37).f3) ((l3296.getD x3447.toNat zS37).f4.f0) ((l3296.getD x3447.toNat zS37).f4.f1) ((l3296.getD x3447.toNat zS37).f4.f2) ((l3296.getD x3447.toNat zS37).f4.f3) ((l3296.getD x3447.toNat zS37).f5) ((l3296.getD x3447.toNat zS37).f6) ((l3296.getD x3447.toNat zS37).f7) ((l3296.getD x3447.toNat zS37).f8)) fun (t3519 : Bool) => (if t3519 = true then (confidantref9_SameAll.l0 K l3293 l3296 n (IntKind.i64.wrap (x3447 + 1))) else (some false))) else none) else none) else (some true)
def confidantref9_SameAll.f (K : Nat) (l3293 : List S37) (l3296 : List S37) : Option Bool := if (l3293.length : Int) = (l3296.length : Int) then (confidantref9_SameAll.l0 K l3293 l3296 K 0) else (some false)
set_option maxRecDepth 100000 in
theorem confidantref9_SameAll.calls {K : Nat} {l3293 : List S37} {l3296 : List S37} {A3294 : Option Addr} {C3295 : Nat} {A3297 : Option Addr} {C3298 : Nat} {x3410 : Bool} {B w : World} {os : List Ass} {rs : List Ro} (H : confidantref9_SameAll.f K l3293 l3296 = some x3410) (hS : St B w (os) (Ro.sl kS37 A3294 C3295 l3293 :: Ro.sl kS37 A3297 C3298 l3296 :: rs)) :
    Calls Try.prog 26 [.slice A3294 l3293.length C3295, .slice A3297 l3296.length C3298].toArray w (fun en w' => ∃ v, en = .returned v ∧ v = .bool (x3410) ∧ St B w' (os) (Ro.sl kS37 A3294 C3295 l3293 :: Ro.sl kS37 A3297 C3298 l3296 :: rs)) := by
  unfold confidantref9_SameAll.f at H
  refine calls_of_EW (args := [.slice A3294 l3293.length C3295, .slice A3297 l3296.length C3298]) (c := Cd26) 27 Try.func26 (by kernel_rfl) (by kernel_rfl) (by kernel_rfl) ?_
  refine EW.seq (x := Cd26.l) (y := Cd26.r) (by kernel_rfl) ?_
  refine EW.region (id := 0) (ops := Cd26.l.ops) (by kernel_rfl) ?_
  refine EL.quick 1 [0, 1] [(0, .slice A3294 l3293.length C3295), (1, .slice A3297 l3296.length C3298)] (by kernel_rfl) ?_
  refine EL.done (by kernel_rfl) ?_
  refine EQ.code ?_
  refine EW.seq (x := Cd26.r.l) (y := Cd26.r.r) (by kernel_rfl) ?_
  refine EW.seq (x := Cd26.r.l.l) (y := Cd26.r.l.r) (by kernel_rfl) ?_
  refine EW.region (id := 1) (ops := Cd26.r.l.l.ops) (by kernel_rfl) ?_
  refine EL.quick 5 [0, 1, 10] [(0, .slice A3294 l3293.length C3295), (1, .slice A3297 l3296.length C3298), (10, .bool (!(decide ((l3293.length : Int) = (l3296.length : Int)))))] (by kernel_rfl) ?_
  refine EL.done (by kernel_rfl) ?_
  refine EQ.code ?_
  refine EW.condQ (b := !(decide ((l3293.length : Int) = (l3296.length : Int)))) (o := (.tmp 10)) (x := Cd26.r.l.r.l) (y := Cd26.r.l.r.r) ((l3293.length : Int) = (l3296.length : Int)) (false) (by kernel_rfl) (by kernel_rfl) ⟨fun h => (by rw [decide_eq_true h] <;> rfl), fun h => (by rw [decide_eq_false h] <;> rfl)⟩ (fun h3412 => ?_) (fun h3412 => ?_)
  · rw [if_pos h3412] at H
    refine EW.skip (by kernel_rfl) ?_
    refine EQ.code ?_
    refine EW.seq (x := Cd26.r.r.l) (y := Cd26.r.r.r) (by kernel_rfl) ?_
    refine EW.seq (x := Cd26.r.r.l.l) (y := Cd26.r.r.l.r) (by kernel_rfl) ?_
    refine EW.region (id := 3) (ops := Cd26.r.r.l.l.ops) (by kernel_rfl) ?_
    refine EL.quick 1 [0, 1, 5] [(0, .slice A3294 l3293.length C3295), (1, .slice A3297 l3296.length C3298), (5, .int .i64 0)] (by kernel_rfl) ?_
    refine EL.done (by kernel_rfl) ?_
    refine EQ.code ?_
    refine EW.block (x := Cd26.r.r.l.r.l) (id := 0) (by kernel_rfl) ?_
    refine EW.loop (x := Cd26.r.r.l.r.l.l) (fun n a w => ∃ x3447 : Int, Sat 27 [(0, .slice A3294 l3293.length C3295), (1, .slice A3297 l3296.length C3298), (5, .int .i64 x3447)] a ∧ St B w (os) (Ro.sl kS37 A3294 C3295 l3293 :: Ro.sl kS37 A3297 C3298 l3296 :: rs) ∧ confidantref9_SameAll.l0 K l3293 l3296 n x3447 = some x3410) K (by kernel_rfl) ?_ (fun n a w hI => ?_)
    · refine EQ.keep [0, 1, 5] [(0, .slice A3294 l3293.length C3295), (1, .slice A3297 l3296.length C3298), (5, .int .i64 0)] (by kernel_rfl) ?_
      exact fun a ha => ⟨0, ha, (hS.re [] [] rfl (sub_cons 0 rfl (sub_cons 1 rfl (sub_tail (sub_tail (sub_self)))))), H⟩
    · obtain ⟨x3447, ha, hS, H⟩ := hI
      obtain _ | n := n
      · simp [confidantref9_SameAll.l0] at H
      rw [confidantref9_SameAll.l0.eq_2] at H
      refine EW.at ?_ a ha
      clear ha a
      refine EW.seq (x := Cd26.r.r.l.r.l.l.l) (y := Cd26.r.r.l.r.l.l.r) (by kernel_rfl) ?_
      refine EW.seq (x := Cd26.r.r.l.r.l.l.l.l) (y := Cd26.r.r.l.r.l.l.l.r) (by kernel_rfl) ?_
      refine EW.region (id := 4) (ops := Cd26.r.r.l.r.l.l.l.l.ops) (by kernel_rfl) ?_
      refine EL.quick 4 [0, 1, 5, 14] [(0, .slice A3294 l3293.length C3295), (1, .slice A3297 l3296.length C3298), (5, .int .i64 x3447), (14, .bool (decide (x3447 < (l3293.length : Int))))] (by kernel_rfl) ?_
      refine EL.done (by kernel_rfl) ?_
      refine EQ.code ?_
      refine EW.condP (o := (.tmp 14)) (x := Cd26.r.r.l.r.l.l.l.r.l) (y := Cd26.r.r.l.r.l.l.l.r.r) (x3447 < (l3293.length : Int)) (by kernel_rfl) (by kernel_rfl) (fun h3487 => ?_) (fun h3487 => ?_)
      · rw [if_pos h3487] at H
        refine EW.skip (by kernel_rfl) ?_
        refine EQ.code ?_
        refine EW.seq (x := Cd26.r.r.l.r.l.l.r.l) (y := Cd26.r.r.l.r.l.l.r.r) (by kernel_rfl) ?_
        refine EW.block (x := Cd26.r.r.l.r.l.l.r.l.l) (id := 1) (by kernel_rfl) ?_
        refine EW.seq (x := Cd26.r.r.l.r.l.l.r.l.l.l) (y := Cd26.r.r.l.r.l.l.r.l.l.r) (by kernel_rfl) ?_
        obtain ⟨h3513, H⟩ := ite_in H
        obtain ⟨ad3514, rfl⟩ := St.rd_some hS (Rd.ro 0 rfl) h3513 h3487
        obtain ⟨h3516, H⟩ := ite_in H
        obtain ⟨ad3517, rfl⟩ := St.rd_some hS (Rd.ro 1 rfl) h3513 h3516
        obtain ⟨t3519, hc3520, H⟩ := b1_out H
        refine EW.meet (id := 6) (ops := Cd26.r.r.l.r.l.l.r.l.l.l.ops) (fun a w => Sat 27 [(0, .slice (some ad3514) l3293.length C3295), (1, .slice (some ad3517) l3296.length C3298), (5, .int .i64 x3447), (26, .bool (!(t3519)))] a ∧ St B w (os) (Ro.sl kS37 (some ad3514) C3295 l3293 :: Ro.sl kS37 (some ad3517) C3298 l3296 :: rs)) (by kernel_rfl) ?_ (fun a w hI => ?_)
        · have hS := hS.drew
          refine EW.draw (B := B) (id := 6) (ops := Cd26.r.r.l.r.l.l.r.l.l.l.ops) [] [Ro.sl kS37 (some ad3514) C3295 l3293, Ro.sl kS37 (some ad3517) C3298 l3296] (by kernel_rfl) (by kernel_rfl) ?_
          have hN : Region.noSelect Cd26.r.r.l.r.l.l.r.l.l.l.ops = true := (by kernel_rfl)
          have hF : freeAll Cd26.r.r.l.r.l.l.r.l.l.l.ops = true := (by kernel_rfl)
          have hC : Core B [] [Ro.sl kS37 (some ad3514) C3295 l3293, Ro.sl kS37 (some ad3517) C3298 l3296] _ := ⟨_, _, hS⟩
          refine ED.quick hN hF hC [0, 1, 4, 5] [0, 1, 5, 17, 18, 21, 22] 6 [(0, .slice (some ad3514) l3293.length C3295), (1, .slice (some ad3517) l3296.length C3298), (5, .int .i64 x3447), (17, .slice (some ad3514) l3293.length C3295), (18, .int .i64 x3447), (21, .slice (some ad3517) l3296.length C3298), (22, .int .i64 x3447)] #[true, true, false, false, true, true, false, false, false, false] (by kernel_rfl) (by kernel_rfl) ?_
          refine ED.Y hN hF hC 2 5 #[true, true, true, false, true, true, false, false, false, false] (by kernel_rfl) (by kernel_rfl) rfl (fun _ _ _ hS => YO.idx 30 12 ad3514 l3293.length C3295 .i64 x3447 19 (by kernel_rfl) (by kernel_rfl) (by kernel_rfl) (by kernel_rfl) h3513 h3487) ?_
          refine ED.Y hN hF hC 6 4 #[true, true, true, false, true, true, true, false, false, false] (by kernel_rfl) (by kernel_rfl) rfl (fun _ _ _ hS => YO.idx 30 12 ad3517 l3296.length C3298 .i64 x3447 23 (by kernel_rfl) (by kernel_rfl) (by kernel_rfl) (by kernel_rfl) h3513 h3516) ?_
          refine ED.two 3 7 3 (by kernel_rfl) (by kernel_rfl) ?_ ?_
          · refine EO.loadPt hS kS37 ad3514 C3295 l3293 (Rd.ro 0 rfl) zS37 cellsS37 factsS37 partsS37 x3447 h3513 h3487 37 12 0 12 rfl (fun b3525 => .agg #[.int .i32 ((l3293.getD x3447.toNat zS37).f0), .int .i64 ((l3293.getD x3447.toNat zS37).f1), .int .i64 ((l3293.getD x3447.toNat zS37).f2), .slice b3525.1 ((l3293.getD x3447.toNat zS37).f3).length b3525.2, .int .i32 ((l3293.getD x3447.toNat zS37).f4.f0), .int .i32 ((l3293.getD x3447.toNat zS37).f4.f1), .int .i32 ((l3293.getD x3447.toNat zS37).f4.f2), .int .i32 ((l3293.getD x3447.toNat zS37).f4.f3), .int .i64 ((l3293.getD x3447.toNat zS37).f5), .int .i64 ((l3293.getD x3447.toNat zS37).f6), .int .u32 ((l3293.getD x3447.toNat zS37).f7), .int .i64 ((l3293.getD x3447.toNat zS37).f8)]) 20 (by kernel_rfl) (by kernel_rfl) (by kernel_rfl) (fun b3525 => (by kernel_rfl)) ?_
            intro b3525 hS
            have hC : Core B [] [Ro.sl kS37 (some ad3514) C3295 l3293, Ro.sl kS37 (some ad3517) C3298 l3296] _ := ⟨_, _, hS.re [] [] rfl (sub_cons 1 rfl (sub_cons 2 rfl sub_self))⟩
            refine ⟨hC, ?_⟩
            refine ED.at' #[true, true, true, true, true, true, true, false, false, false] (by kernel_rfl) ?_
            refine ED.one 7 2 #[true, true, true, true, true, true, true, true, false, false] (by kernel_rfl) (by kernel_rfl) (by kernel_rfl) (EO.loadPt hS kS37 ad3517 C3298 l3296 (Rd.ro 2 rfl) zS37 cellsS37 factsS37 partsS37 x3447 h3513 h3516 37 12 0 12 rfl (fun b3526 => .agg #[.int .i32 ((l3296.getD x3447.toNat zS37).f0), .int .i64 ((l3296.getD x3447.toNat zS37).f1), .int .i64 ((l3296.getD x3447.toNat zS37).f2), .slice b3526.1 ((l3296.getD x3447.toNat zS37).f3).length b3526.2, .int .i32 ((l3296.getD x3447.toNat zS37).f4.f0), .int .i32 ((l3296.getD x3447.toNat zS37).f4.f1), .int .i32 ((l3296.getD x3447.toNat zS37).f4.f2), .int .i32 ((l3296.getD x3447.toNat zS37).f4.f3), .int .i64 ((l3296.getD x3447.toNat zS37).f5), .int .i64 ((l3296.getD x3447.toNat zS37).f6), .int .u32 ((l3296.getD x3447.toNat zS37).f7), .int .i64 ((l3296.getD x3447.toNat zS37).f8)]) 24 (by kernel_rfl) (by kernel_rfl) (by kernel_rfl) (fun b3526 => (by kernel_rfl)) ?_)
            intro b3526 hS
            have hC : Core B [] [Ro.sl kS37 (some ad3514) C3295 l3293, Ro.sl kS37 (some ad3517) C3298 l3296] _ := ⟨_, _, hS.re [] [] rfl (sub_cons 2 rfl (sub_cons 3 rfl sub_self))⟩
            refine ⟨hC, ?_⟩
            have hS : St B _ (os) (Ro.sl (Kd.int .i32) b3525.1 b3525.2 ((l3293.getD x3447.toNat zS37).f3) :: Ro.sl (Kd.int .i32) b3526.1 b3526.2 ((l3296.getD x3447.toNat zS37).f3) :: Ro.sl (Kd.int .i32) b3526.1 b3526.2 ((l3296.getD x3447.toNat zS37).f3) :: Ro.sl (Kd.int .i32) b3525.1 b3525.2 ((l3293.getD x3447.toNat zS37).f3) :: Ro.sl kS37 (some ad3514) C3295 l3293 :: Ro.sl kS37 (some ad3517) C3298 l3296 :: rs) := hS.re [] [] rfl (sub_cons 1 rfl (sub_cons 0 rfl sub_self))
            refine ED.one 8 1 #[true, true, true, true, true, true, true, true, true, false] (by kernel_rfl) (by kernel_rfl) (by kernel_rfl) (EO.callD 23 [.agg #[.int .i32 ((l3293.getD x3447.toNat zS37).f0), .int .i64 ((l3293.getD x3447.toNat zS37).f1), .int .i64 ((l3293.getD x3447.toNat zS37).f2), .slice b3525.1 ((l3293.getD x3447.toNat zS37).f3).length b3525.2, .int .i32 ((l3293.getD x3447.toNat zS37).f4.f0), .int .i32 ((l3293.getD x3447.toNat zS37).f4.f1), .int .i32 ((l3293.getD x3447.toNat zS37).f4.f2), .int .i32 ((l3293.getD x3447.toNat zS37).f4.f3), .int .i64 ((l3293.getD x3447.toNat zS37).f5), .int .i64 ((l3293.getD x3447.toNat zS37).f6), .int .u32 ((l3293.getD x3447.toNat zS37).f7), .int .i64 ((l3293.getD x3447.toNat zS37).f8)], .agg #[.int .i32 ((l3296.getD x3447.toNat zS37).f0), .int .i64 ((l3296.getD x3447.toNat zS37).f1), .int .i64 ((l3296.getD x3447.toNat zS37).f2), .slice b3526.1 ((l3296.getD x3447.toNat zS37).f3).length b3526.2, .int .i32 ((l3296.getD x3447.toNat zS37).f4.f0), .int .i32 ((l3296.getD x3447.toNat zS37).f4.f1), .int .i32 ((l3296.getD x3447.toNat zS37).f4.f2), .int .i32 ((l3296.getD x3447.toNat zS37).f4.f3), .int .i64 ((l3296.getD x3447.toNat zS37).f5), .int .i64 ((l3296.getD x3447.toNat zS37).f6), .int .u32 ((l3296.getD x3447.toNat zS37).f7), .int .i64 ((l3296.getD x3447.toNat zS37).f8)]] _ 25 (by kernel_rfl) (by kernel_rfl) (by kernel_rfl) (confidantref9_Same.calls hc3520 hS) ?_)
            rintro v w ⟨rfl, hS⟩
            have hC : Core B [] [Ro.sl kS37 (some ad3514) C3295 l3293, Ro.sl kS37 (some ad3517) C3298 l3296] _ := ⟨_, _, hS.re [] [] rfl (sub_cons 4 rfl (sub_cons 5 rfl sub_self))⟩
            refine ⟨hC, ?_⟩
            refine ED.quick hN hF hC [9] [0, 1, 5, 26] 0 [(0, .slice (some ad3514) l3293.length C3295), (1, .slice (some ad3517) l3296.length C3298), (5, .int .i64 x3447), (26, .bool (!(t3519)))] #[true, true, true, true, true, true, true, true, true, true] (by kernel_rfl) (by kernel_rfl) ?_
            refine ED.done (by kernel_rfl) ?_
            refine EQ.to ?_
            refine EQ.keep [0, 1, 5, 26] [(0, .slice (some ad3514) l3293.length C3295), (1, .slice (some ad3517) l3296.length C3298), (5, .int .i64 x3447), (26, .bool (!(t3519)))] (by kernel_rfl) ?_
            exact fun a ha => ⟨ha, (hS.re [] [] rfl (sub_cons 4 rfl (sub_cons 5 rfl (sub_tail (sub_tail (sub_tail (sub_tail (sub_tail (sub_tail (sub_self))))))))))⟩
          · refine EO.loadPt hS kS37 ad3517 C3298 l3296 (Rd.ro 1 rfl) zS37 cellsS37 factsS37 partsS37 x3447 h3513 h3516 37 12 0 12 rfl (fun b3527 => .agg #[.int .i32 ((l3296.getD x3447.toNat zS37).f0), .int .i64 ((l3296.getD x3447.toNat zS37).f1), .int .i64 ((l3296.getD x3447.toNat zS37).f2), .slice b3527.1 ((l3296.getD x3447.toNat zS37).f3).length b3527.2, .int .i32 ((l3296.getD x3447.toNat zS37).f4.f0), .int .i32 ((l3296.getD x3447.toNat zS37).f4.f1), .int .i32 ((l3296.getD x3447.toNat zS37).f4.f2), .int .i32 ((l3296.getD x3447.toNat zS37).f4.f3), .int .i64 ((l3296.getD x3447.toNat zS37).f5), .int .i64 ((l3296.getD x3447.toNat zS37).f6), .int .u32 ((l3296.getD x3447.toNat zS37).f7), .int .i64 ((l3296.getD x3447.toNat zS37).f8)]) 24 (by kernel_rfl) (by kernel_rfl) (by kernel_rfl) (fun b3527 => (by kernel_rfl)) ?_
            intro b3527 hS
            have hC : Core B [] [Ro.sl kS37 (some ad3514) C3295 l3293, Ro.sl kS37 (some ad3517) C3298 l3296] _ := ⟨_, _, hS.re [] [] rfl (sub_cons 1 rfl (sub_cons 2 rfl sub_self))⟩
            refine ⟨hC, ?_⟩
            refine ED.at' #[true, true, true, false, true, true, true, true, false, false] (by kernel_rfl) ?_
            refine ED.one 3 2 #[true, true, true, true, true, true, true, true, false, false] (by kernel_rfl) (by kernel_rfl) (by kernel_rfl) (EO.loadPt hS kS37 ad3514 C3295 l3293 (Rd.ro 1 rfl) zS37 cellsS37 factsS37 partsS37 x3447 h3513 h3487 37 12 0 12 rfl (fun b3528 => .agg #[.int .i32 ((l3293.getD x3447.toNat zS37).f0), .int .i64 ((l3293.getD x3447.toNat zS37).f1), .int .i64 ((l3293.getD x3447.toNat zS37).f2), .slice b3528.1 ((l3293.getD x3447.toNat zS37).f3).length b3528.2, .int .i32 ((l3293.getD x3447.toNat zS37).f4.f0), .int .i32 ((l3293.getD x3447.toNat zS37).f4.f1), .int .i32 ((l3293.getD x3447.toNat zS37).f4.f2), .int .i32 ((l3293.getD x3447.toNat zS37).f4.f3), .int .i64 ((l3293.getD x3447.toNat zS37).f5), .int .i64 ((l3293.getD x3447.toNat zS37).f6), .int .u32 ((l3293.getD x3447.toNat zS37).f7), .int .i64 ((l3293.getD x3447.toNat zS37).f8)]) 20 (by kernel_rfl) (by kernel_rfl) (by kernel_rfl) (fun b3528 => (by kernel_rfl)) ?_)
            intro b3528 hS
            have hC : Core B [] [Ro.sl kS37 (some ad3514) C3295 l3293, Ro.sl kS37 (some ad3517) C3298 l3296] _ := ⟨_, _, hS.re [] [] rfl (sub_cons 2 rfl (sub_cons 3 rfl sub_self))⟩
            refine ⟨hC, ?_⟩
            have hS : St B _ (os) (Ro.sl (Kd.int .i32) b3528.1 b3528.2 ((l3293.getD x3447.toNat zS37).f3) :: Ro.sl (Kd.int .i32) b3527.1 b3527.2 ((l3296.getD x3447.toNat zS37).f3) :: Ro.sl (Kd.int .i32) b3528.1 b3528.2 ((l3293.getD x3447.toNat zS37).f3) :: Ro.sl (Kd.int .i32) b3527.1 b3527.2 ((l3296.getD x3447.toNat zS37).f3) :: Ro.sl kS37 (some ad3514) C3295 l3293 :: Ro.sl kS37 (some ad3517) C3298 l3296 :: rs) := hS.re [] [] rfl (sub_cons 0 rfl (sub_cons 1 rfl sub_self))
            refine ED.one 8 1 #[true, true, true, true, true, true, true, true, true, false] (by kernel_rfl) (by kernel_rfl) (by kernel_rfl) (EO.callD 23 [.agg #[.int .i32 ((l3293.getD x3447.toNat zS37).f0), .int .i64 ((l3293.getD x3447.toNat zS37).f1), .int .i64 ((l3293.getD x3447.toNat zS37).f2), .slice b3528.1 ((l3293.getD x3447.toNat zS37).f3).length b3528.2, .int .i32 ((l3293.getD x3447.toNat zS37).f4.f0), .int .i32 ((l3293.getD x3447.toNat zS37).f4.f1), .int .i32 ((l3293.getD x3447.toNat zS37).f4.f2), .int .i32 ((l3293.getD x3447.toNat zS37).f4.f3), .int .i64 ((l3293.getD x3447.toNat zS37).f5), .int .i64 ((l3293.getD x3447.toNat zS37).f6), .int .u32 ((l3293.getD x3447.toNat zS37).f7), .int .i64 ((l3293.getD x3447.toNat zS37).f8)], .agg #[.int .i32 ((l3296.getD x3447.toNat zS37).f0), .int .i64 ((l3296.getD x3447.toNat zS37).f1), .int .i64 ((l3296.getD x3447.toNat zS37).f2), .slice b3527.1 ((l3296.getD x3447.toNat zS37).f3).length b3527.2, .int .i32 ((l3296.getD x3447.toNat zS37).f4.f0), .int .i32 ((l3296.getD x3447.toNat zS37).f4.f1), .int .i32 ((l3296.getD x3447.toNat zS37).f4.f2), .int .i32 ((l3296.getD x3447.toNat zS37).f4.f3), .int .i64 ((l3296.getD x3447.toNat zS37).f5), .int .i64 ((l3296.getD x3447.toNat zS37).f6), .int .u32 ((l3296.getD x3447.toNat zS37).f7), .int .i64 ((l3296.getD x3447.toNat zS37).f8)]] _ 25 (by kernel_rfl) (by kernel_rfl) (by kernel_rfl) (confidantref9_Same.calls hc3520 hS) ?_)
            rintro v w ⟨rfl, hS⟩
            have hC : Core B [] [Ro.sl kS37 (some ad3514) C3295 l3293, Ro.sl kS37 (some ad3517) C3298 l3296] _ := ⟨_, _, hS.re [] [] rfl (sub_cons 4 rfl (sub_cons 5 rfl sub_self))⟩
            refine ⟨hC, ?_⟩
            refine ED.quick hN hF hC [9] [0, 1, 5, 26] 0 [(0, .slice (some ad3514) l3293.length C3295), (1, .slice (some ad3517) l3296.length C3298), (5, .int .i64 x3447), (26, .bool (!(t3519)))] #[true, true, true, true, true, true, true, true, true, true] (by kernel_rfl) (by kernel_rfl) ?_
            refine ED.done (by kernel_rfl) ?_
            refine EQ.to ?_
            refine EQ.keep [0, 1, 5, 26] [(0, .slice (some ad3514) l3293.length C3295), (1, .slice (some ad3517) l3296.length C3298), (5, .int .i64 x3447), (26, .bool (!(t3519)))] (by kernel_rfl) ?_
            exact fun a ha => ⟨ha, (hS.re [] [] rfl (sub_cons 4 rfl (sub_cons 5 rfl (sub_tail (sub_tail (sub_tail (sub_tail (sub_tail (sub_tail (sub_self))))))))))⟩
        · obtain ⟨ha, hS⟩ := hI
          refine EQ.at ?_ a ha
          clear ha a
          refine EQ.code ?_
          refine EW.condQ (b := !(t3519)) (o := (.tmp 26)) (x := Cd26.r.r.l.r.l.l.r.l.l.r.l) (y := Cd26.r.r.l.r.l.l.r.l.l.r.r) (t3519 = true) (false) (by kernel_rfl) (by kernel_rfl) ⟨fun h => (by rw [h] <;> rfl), fun h => (by rw [Bool.eq_false_iff.2 h] <;> rfl)⟩ (fun h3529 => ?_) (fun h3529 => ?_)
          · rw [if_pos h3529] at H
            refine EW.skip (by kernel_rfl) ?_
            refine EQ.pop ?_
            refine EQ.code ?_
            refine EW.region (id := 5) (ops := Cd26.r.r.l.r.l.l.r.r.ops) (by kernel_rfl) ?_
            refine EL.quick 3 [0, 1, 5] [(0, .slice (some ad3514) l3293.length C3295), (1, .slice (some ad3517) l3296.length C3298), (5, .int .i64 (IntKind.i64.wrap (x3447 + 1)))] (by kernel_rfl) ?_
            refine EL.done (by kernel_rfl) ?_
            refine EQ.to ?_
            refine EQ.keep [0, 1, 5] [(0, .slice (some ad3514) l3293.length C3295), (1, .slice (some ad3517) l3296.length C3298), (5, .int .i64 (IntKind.i64.wrap (x3447 + 1)))] (by kernel_rfl) ?_
            exact fun a ha => ⟨n, Nat.lt_succ_self n, IntKind.i64.wrap (x3447 + 1), ha, (hS.re [] [] rfl (sub_cons 0 rfl (sub_cons 1 rfl (sub_tail (sub_tail (sub_self)))))), H⟩
          · rw [if_neg h3529] at H
            refine EW.seq (x := Cd26.r.r.l.r.l.l.r.l.l.r.l.l) (y := Cd26.r.r.l.r.l.l.r.l.l.r.l.r) (by kernel_rfl) ?_
            refine EW.region (id := 7) (ops := Cd26.r.r.l.r.l.l.r.l.l.r.l.l.ops) (by kernel_rfl) ?_
            refine EL.quick 1 [4] [(4, .bool (false))] (by kernel_rfl) ?_
            refine EL.done (by kernel_rfl) ?_
            refine EQ.code ?_
            refine EW.ret (by kernel_rfl) ?_
            refine EQ.ret ?_
            refine EQ.ret ?_
            refine EQ.ret ?_
            refine EQ.ret ?_
            refine EQ.ret ?_
            obtain rfl := Option.some.inj H
            exact EQ.leave (.bool (false)) (by kernel_rfl) ⟨_, rfl, rfl, (hS.re [] [] rfl (sub_self))⟩
      · rw [if_neg h3487] at H
        refine EW.exit (id := 0) (by kernel_rfl) ?_
        refine EQ.exitCode ?_
        refine EQ.exitTo ?_
        refine EQ.exitHere ?_
        refine EQ.code ?_
        refine EW.seq (x := Cd26.r.r.r.l) (y := Cd26.r.r.r.r) (by kernel_rfl) ?_
        refine EW.region (id := 8) (ops := Cd26.r.r.r.l.ops) (by kernel_rfl) ?_
        refine EL.quick 1 [4] [(4, .bool (true))] (by kernel_rfl) ?_
        refine EL.done (by kernel_rfl) ?_
        refine EQ.code ?_
        refine EW.ret (by kernel_rfl) ?_
        obtain rfl := Option.some.inj H
        exact EQ.leave (.bool (true)) (by kernel_rfl) ⟨_, rfl, rfl, (hS.re [] [] rfl (sub_self))⟩
  · rw [if_neg h3412] at H
    refine EW.seq (x := Cd26.r.l.r.l.l) (y := Cd26.r.l.r.l.r) (by kernel_rfl) ?_
    refine EW.region (id := 2) (ops := Cd26.r.l.r.l.l.ops) (by kernel_rfl) ?_
    refine EL.quick 1 [4] [(4, .bool (false))] (by kernel_rfl) ?_
    refine EL.done (by kernel_rfl) ?_
    refine EQ.code ?_
    refine EW.ret (by kernel_rfl) ?_
    refine EQ.ret ?_
    obtain rfl := Option.some.inj H
    exact EQ.leave (.bool (false)) (by kernel_rfl) ⟨_, rfl, rfl, (hS.re [] [] rfl (sub_self))⟩

/-! ### confidant/confidantlaw15.RingPlays: function 3 -/
def confidantlaw15_RingPlays.l1 (K : Nat) (l6 : List Int) (j69562 : (List S37) → Int → Int → Int → (List S37) → Option Bool) : Nat → (List S37) → Int → Int → Int → (List S37) → Int → Option Bool
  | 0, _, _, _, _, _, _ => none
  | n + 1, x70885, x70888, x70889, x70890, x70891, x70894 => if x70894 < (l6.length : Int) then (lt (fun (x73205 : Int) (x73206 : List S37) (x73209 : List S37) (x73212 : Int) (x73213 : Int) => (lt (fun (x73441 : Int) (x73442 : Int) (x73443 : Bool) => (if x73443 = true then (some false) else (confidantlaw15_RingPlays.l1 K l6 j69562 n x73209 x73441 x73442 x73205 x73206 (IntKind.i64.wrap (x70894 + 1))))) fun j73444 => (b3 (ring_Ring_Len.f K x73209 x73212 x73213) fun (t73445 : Int) (t73446 : Int) (t73447 : Int) => (if t73447 = (x73206.length : Int) then (b3 (ring_Ring_All.f K x73209 t73445 t73446) fun (t73450 : Int) (t73451 : Int) (t73452 : List S37) => (b1 (confidantref9_SameAll.f K t73452 x73206) fun (t73456 : Bool) => (j73444 t73450 t73451 (!(t73456))))) else (j73444 t73445 t73446 true))))) fun j73214 => (if 0 ≤ x70894 then (lt (fun (x73226 : Bool) => (if x73226 = true then (lt ([IntKind.i32.wrap x70894] : List Int) fun l73236 => (b4 (ring_Ring_Push.f K x70885 x70888 x70889 (IntKind.i32.wrap x70894) 0 0 l73236 0 0 0 0 0 0 0 (IntKind.i64.wrap (IntKind.u8.wrap (Int.tdiv (l6.getD x70894.toNat 0) 8)))) fun (t73251 : List S37) (t73252 : Int) (t73253 : Int) (t73254 : Bool) => (b3 (confidantref15_Ring_Push.f K x70890 x70891 (IntKind.i32.wrap x70894) 0 0 l73236 0 0 0 0 0 0 0 (IntKind.i64.wrap (IntKind.u8.wrap (Int.tdiv (l6.getD x70894.toNat 0) 8)))) fun (t73258 : Int) (t73259 : List S37) (t73260 : Bool) => (if (t73254 == t73260) = true then (j73214 t73258 t73259 t73251 t73252 t73253) else (some false))))) else (lt (fun (x73276 : Bool) => (if x73276 = true then (b4 (ring_Ring_Pop.f K x70885 x70888 x70889) fun (t73288 : Int) (t73289 : Int) (t73290 : S37) (t73291 : Bool) => (b4 (confidantref15_Ring_Pop.f K x70890 x70891) fun (t73306 : Int) (t73307 : List S37) (t73308 : S37) (t73309 : Bool) => (lt (fun (x73323 : Bool) => (if x73323 = true then (some false) else (j73214 t73306 t73307 x70885 t73288 t73289))) fun j73324 => (if (t73291 == t73309) = true then (b1 (confidantref9_Same.f K t73290.f0 t73290.f1 t73290.f2 t73290.f3 t73290.f4.f0 t73290.f4.f1 t73290.f4.f2 t73290.f4.f3 t73290.f5 t73290.f6 t73290.f7 t73290.f8 t73308.f0 t73308.f1 t73308.f2 t73308.f3 t73308.f4.f0 t73308.f4.f1 t73308.f4.f2 t73308.f4.f3 t73308.f5 t73308.f6 t73308.f7 t73308.f8) fun (t73326 : Bool) => (j73324 (!(t73326)))) else (j73324 true))))) else (if (Int.tmod (l6.getD x70894.toNat 0) 8) = 6 then (b4 (ring_Ring_Steal.f K x70885 x70888 x70889) fun (t73338 : Int) (t73339 : Int) (t73340 : S37) (t73341 : Bool) => (b4 (confidantref15_Ring_Steal.f K x70890 x70891) fun (t73356 : Int) (t73357 : List S37) (t73358 : S37) (t73359 : Bool) => (lt (fun (x73373 : Bool) => (if x73373 = true then (some false) else (j73214 t73356 t73357 x70885 t73338 t73339))) fun j73374 => (if (t73341 == t73359) = true then (b1 (confidantref9_Same.f K t73340.f0 t73340.f1 t73340.f2 t73340.f3 t73340.f4.f0 t73340.f4.f1 t73340.f4.f2 t73340.f4.f3 t73340.f5 t73340.f6 t73340.f7 t73340.f8 t73358.f0 t73358.f1 t73358.f2 t73358.f3 t73358.f4.f0 t73358.f4.f1 t73358.f4.f2 t73358.f4.f3 t73358.f5 t73358.f6 t73358.f7 t73358.f8) fun (t73376 : Bool) => (j73374 (!(t73376)))) else (j73374 true))))) else (b3 (ring_Ring_Half.f K x70885 x70888 x70889) fun (t73395 : Int) (t73396 : Int) (t73397 : List S37) => (b3 (confidantref15_Ring_Half.f K x70890 x70891) fun (t73401 : Int) (t73402 : List S37) (t73403 : List S37) => (b1 (confidantref9_SameAll.f K t73397 t73403) fun (t73409 : Bool) => (if t73409 = true then (j73214 t73401 t73402 x70885 t73395 t73396) else (some false)))))))) fun j73277 => (if (Int.tmod (l6.getD x70894.toNat 0) 8) = 4 then (j73277 true) else (j73277 (decide ((Int.tmod (l6.getD x70894.toNat 0) 8) = 5))))))) fun j73227 => (if (Int.tmod (l6.getD x70894.toNat 0) 8) = 0 then (j73227 true) else (if (Int.tmod (l6.getD x70894.toNat 0) 8) = 1 then (j73227 true) else (if (Int.tmod (l6.getD x70894.toNat 0) 8) = 2 then (j73227 true) else (j73227 (decide ((Int.tmod (l6.getD x70894.toNat 0) 8) = 3))))))) else none)) else (j69562 x70885 x70888 x70889 x70890 x70891)
def confidantlaw15_RingPlays.l0 (K : Nat) (l38390 : List Int) (l6 : List Int) : Nat → Int → Option Bool
  | 0, _ => none
  | n + 1, x50074 => if x50074 < (l38390.length : Int) then (lt (fun (x69553 : List S37) (x69556 : Int) (x69557 : Int) (x69558 : Int) (x69559 : List S37) => (confidantlaw15_RingPlays.l0 K l38390 l6 n (IntKind.i64.wrap (x50074 + 1)))) fun j69562 => (if 0 ≤ x50074 then (b3 (ring_New.f K (l38390.getD x50074.toNat 0)) fun (t69578 : List S37) (t69579 : Int) (t69580 : Int) => (b2 (confidantref15_NewRing.f K (l38390.getD x50074.toNat 0)) fun (t69585 : Int) (t69586 : List S37) => (b3 (ring_Ring_Room.f K t69578 t69579 t69580) fun (t69604 : Int) (t69605 : Int) (t69606 : Int) => (if t69606 = t69585 then (confidantlaw15_RingPlays.l1 K l6 j69562 K t69578 t69604 t69605 t69585 t69586 0) else (some false))))) else none)) else (some true)
def confidantlaw15_RingPlays.f (K : Nat) (a5 : Int) (l6 : List Int) : Option Bool := b1 (confidantlaw15_known.f K) fun (t38382 : Bool) => (if t38382 = true then (if (l6.length : Int) > 100 then (some true) else (lt ([a5, bA .i64 a5 7] : List Int) fun l38390 => (confidantlaw15_RingPlays.l0 K l38390 l6 K 0))) else (some false))
set_option maxRecDepth 100000 in
theorem confidantlaw15_RingPlays.calls {K : Nat} {a5 : Int} {l6 : List Int} {A7 : Option Addr} {C8 : Nat} {x38374 : Bool} {B w : World} {os : List Ass} {rs : List Ro} (H : confidantlaw15_RingPlays.f K a5 l6 = some x38374) (hS : St B w (os) (Ro.sl (Kd.int .u8) A7 C8 l6 :: rs)) :
    Calls Try.prog 3 [.int .i64 a5, .slice A7 l6.length C8].toArray w (fun en w' => ∃ v, en = .returned v ∧ v = .bool (x38374) ∧ St B w' (os) (Ro.sl (Kd.int .u8) A7 C8 l6 :: rs)) := by
  unfold confidantlaw15_RingPlays.f at H
  refine calls_of_EW (args := [.int .i64 a5, .slice A7 l6.length C8]) (c := Cd3) 147 Try.func3 (by kernel_rfl) (by kernel_rfl) (by kernel_rfl) ?_
  refine EW.seq (x := Cd3.l) (y := Cd3.r) (by kernel_rfl) ?_
  refine EW.region (id := 0) (ops := Cd3.l.ops) (by kernel_rfl) ?_
  refine EL.quick 1 [0, 1] [(0, .int .i64 a5), (1, .slice A7 l6.length C8)] (by kernel_rfl) ?_
  refine EL.done (by kernel_rfl) ?_
  refine EQ.code ?_
  refine EW.seq (x := Cd3.r.l) (y := Cd3.r.r) (by kernel_rfl) ?_
  refine EW.seq (x := Cd3.r.l.l) (y := Cd3.r.l.r) (by kernel_rfl) ?_
  refine EW.region (id := 1) (ops := Cd3.r.l.l.ops) (by kernel_rfl) ?_
  obtain ⟨t38382, hc38383, H⟩ := b1_out H
  refine EL.of (EO.callD 15 [] _ 19 (by kernel_rfl) (by kernel_rfl) (by kernel_rfl) (confidantlaw15_known.calls hc38383 hS) ?_)
  rintro v w ⟨rfl, hS⟩
  refine EL.quick 1 [0, 1, 20] [(0, .int .i64 a5), (1, .slice A7 l6.length C8), (20, .bool (!(t38382)))] (by kernel_rfl) ?_
  refine EL.done (by kernel_rfl) ?_
  refine EQ.code ?_
  refine EW.condQ (b := !(t38382)) (o := (.tmp 20)) (x := Cd3.r.l.r.l) (y := Cd3.r.l.r.r) (t38382 = true) (false) (by kernel_rfl) (by kernel_rfl) ⟨fun h => (by rw [h] <;> rfl), fun h => (by rw [Bool.eq_false_iff.2 h] <;> rfl)⟩ (fun h38384 => ?_) (fun h38384 => ?_)
  · rw [if_pos h38384] at H
    refine EW.skip (by kernel_rfl) ?_
    refine EQ.code ?_
    refine EW.seq (x := Cd3.r.r.l) (y := Cd3.r.r.r) (by kernel_rfl) ?_
    refine EW.seq (x := Cd3.r.r.l.l) (y := Cd3.r.r.l.r) (by kernel_rfl) ?_
    refine EW.region (id := 3) (ops := Cd3.r.r.l.l.ops) (by kernel_rfl) ?_
    refine EL.quick 3 [0, 1, 23] [(0, .int .i64 a5), (1, .slice A7 l6.length C8), (23, .bool (decide ((l6.length : Int) > 100)))] (by kernel_rfl) ?_
    refine EL.done (by kernel_rfl) ?_
    refine EQ.code ?_
    refine EW.condP (o := (.tmp 23)) (x := Cd3.r.r.l.r.l) (y := Cd3.r.r.l.r.r) ((l6.length : Int) > 100) (by kernel_rfl) (by kernel_rfl) (fun h38386 => ?_) (fun h38386 => ?_)
    · rw [if_pos h38386] at H
      refine EW.seq (x := Cd3.r.r.l.r.l.l) (y := Cd3.r.r.l.r.l.r) (by kernel_rfl) ?_
      refine EW.region (id := 4) (ops := Cd3.r.r.l.r.l.l.ops) (by kernel_rfl) ?_
      refine EL.quick 1 [4] [(4, .bool (true))] (by kernel_rfl) ?_
      refine EL.done (by kernel_rfl) ?_
      refine EQ.code ?_
      refine EW.ret (by kernel_rfl) ?_
      refine EQ.ret ?_
      obtain rfl := Option.some.inj H
      exact EQ.leave (.bool (true)) (by kernel_rfl) ⟨_, rfl, rfl, (hS.re [] [] rfl (sub_self))⟩
    · rw [if_neg h38386] at H
      refine EW.skip (by kernel_rfl) ?_
      refine EQ.code ?_
      refine EW.seq (x := Cd3.r.r.r.l) (y := Cd3.r.r.r.r) (by kernel_rfl) ?_
      refine EW.seq (x := Cd3.r.r.r.l.l) (y := Cd3.r.r.r.l.r) (by kernel_rfl) ?_
      refine EW.region (id := 5) (ops := Cd3.r.r.r.l.l.ops) (by kernel_rfl) ?_
      refine EL.quick 3 [1, 24, 26] [(1, .slice A7 l6.length C8), (24, .int .i64 a5), (26, .int .i64 (bA .i64 a5 7))] (by kernel_rfl) ?_
      obtain ⟨l38390, hl38390, H⟩ := lt_out H
      refine EL.of (EO.lit hS (Kd.int .i64) 3 24 2 #[(0, .int .i64 a5), (1, .int .i64 (bA .i64 a5 7))] [.int .i64 a5, .int .i64 (bA .i64 a5 7)] l38390 27 (by kernel_rfl) (by kernel_rfl) (by kernel_rfl) (fun _ => (by kernel_rfl)) (by rw [hl38390]; rfl) (by kernel_rfl) (fun w G hr => (by rw [hl38390]; exact ⟨[.int .i64 a5], [.int .i64 (bA .i64 a5 7)], rfl, rfl, ⟨[.int .i64 (bA .i64 a5 7)], [], rfl, rfl, rfl⟩⟩)) ?_)
      intro g38389 w hS
      refine EL.quick 2 [1, 27, 28, 29] [(1, .slice A7 l6.length C8), (27, .slice (some ⟨g38389, 0, none⟩) l38390.length 2), (28, .int .i64 (l38390.length : Int)), (29, .int .i64 0)] (by kernel_rfl) ?_
      refine EL.done (by kernel_rfl) ?_
      refine EQ.code ?_
      refine EW.block (x := Cd3.r.r.r.l.r.l) (id := 0) (by kernel_rfl) ?_
      refine EW.loop (x := Cd3.r.r.r.l.r.l.l) (fun n a w => ∃ x50074 : Int, Sat 147 [(1, .slice A7 l6.length C8), (27, .slice (some ⟨g38389, 0, none⟩) l38390.length 2), (28, .int .i64 (l38390.length : Int)), (29, .int .i64 x50074)] a ∧ St B w (Ass.own 3 (Kd.int .i64) (some ⟨g38389, 0, none⟩) 2 l38390 :: os) (Ro.sl (Kd.int .u8) A7 C8 l6 :: rs) ∧ confidantlaw15_RingPlays.l0 K l38390 l6 n x50074 = some x38374) K (by kernel_rfl) ?_ (fun n a w hI => ?_)
      · refine EQ.keep [1, 27, 28, 29] [(1, .slice A7 l6.length C8), (27, .slice (some ⟨g38389, 0, none⟩) l38390.length 2), (28, .int .i64 (l38390.length : Int)), (29, .int .i64 0)] (by kernel_rfl) ?_
        exact fun a ha => ⟨0, ha, (hS.re [0] [] rfl (sub_cons 0 rfl (sub_tail (sub_self)))), H⟩
      · obtain ⟨x50074, ha, hS, H⟩ := hI
        obtain _ | n := n
        · simp [confidantlaw15_RingPlays.l0] at H
        rw [confidantlaw15_RingPlays.l0.eq_2] at H
        refine EW.at ?_ a ha
        clear ha a
        refine EW.seq (x := Cd3.r.r.r.l.r.l.l.l) (y := Cd3.r.r.r.l.r.l.l.r) (by kernel_rfl) ?_
        refine EW.region (id := 6) (ops := Cd3.r.r.r.l.r.l.l.l.ops) (by kernel_rfl) ?_
        refine EL.quick 1 [1, 27, 28, 29, 30] [(1, .slice A7 l6.length C8), (27, .slice (some ⟨g38389, 0, none⟩) l38390.length 2), (28, .int .i64 (l38390.length : Int)), (29, .int .i64 x50074), (30, .bool (decide (x50074 < (l38390.length : Int))))] (by kernel_rfl) ?_
        refine EL.done (by kernel_rfl) ?_
        refine EQ.code ?_
        refine EW.seq (x := Cd3.r.r.r.l.r.l.l.r.l) (y := Cd3.r.r.r.l.r.l.l.r.r) (by kernel_rfl) ?_
        refine EW.condP (o := (.tmp 30)) (x := Cd3.r.r.r.l.r.l.l.r.l.l) (y := Cd3.r.r.r.l.r.l.l.r.l.r) (x50074 < (l38390.length : Int)) (by kernel_rfl) (by kernel_rfl) (fun h61765 => ?_) (fun h61765 => ?_)
        · rw [if_pos h61765] at H
          refine EW.skip (by kernel_rfl) ?_
          refine EQ.code ?_
          obtain ⟨j69562, hj69562, H⟩ := lt_out H
          refine EW.cut (x := Cd3.r.r.r.l.r.l.l.r.r.l) (y := Cd3.r.r.r.l.r.l.l.r.r.r) (fun a w => ∃ x69553 : List S37, ∃ x69556 : Int, ∃ x69557 : Int, ∃ x69558 : Int, ∃ x69559 : List S37, ∃ g69551 : Nat, ∃ g69552 : Nat, ∃ A69554 : Option Addr, ∃ C69555 : Nat, ∃ A69560 : Option Addr, ∃ C69561 : Nat, Sat 147 [(1, .slice A7 l6.length C8), (27, .slice (some ⟨g38389, 0, none⟩) l38390.length 2), (28, .int .i64 (l38390.length : Int)), (29, .int .i64 x50074)] a ∧ St B w (Ass.box 90 g69551 [.slice A69554 x69553.length C69555, .int .i64 x69556, .int .i64 x69557] :: Ass.own 37 kS37 A69554 C69555 x69553 :: Ass.box 32 g69552 [.int .i64 x69558, .slice A69560 x69559.length C69561] :: Ass.own 3 (Kd.int .i64) (some ⟨g38389, 0, none⟩) 2 l38390 :: os) (Ro.sl kS37 A69560 C69561 x69559 :: Ro.sl (Kd.int .u8) A7 C8 l6 :: rs) ∧ j69562 x69553 x69556 x69557 x69558 x69559 = some x38374) (by kernel_rfl) ?_ (fun a w hI => ?_)
          · refine EW.block (x := Cd3.r.r.r.l.r.l.l.r.r.l.l) (id := 1) (by kernel_rfl) ?_
            refine EW.seq (x := Cd3.r.r.r.l.r.l.l.r.r.l.l.l) (y := Cd3.r.r.r.l.r.l.l.r.r.l.l.r) (by kernel_rfl) ?_
            refine EW.region (id := 7) (ops := Cd3.r.r.r.l.r.l.l.r.r.l.l.l.ops) (by kernel_rfl) ?_
            obtain ⟨h69564, H⟩ := ite_in H
            refine EL.of (EO.Y (YO.idx 24 1 ⟨g38389, 0, none⟩ l38390.length 2 .i64 x50074 31 (by kernel_rfl) (by kernel_rfl) (by kernel_rfl) (by kernel_rfl) h69564 h61765) ?_)
            refine EL.of (EO.Y (YO.loadEl hS (Kd.int .i64) ⟨g38389, 0, none⟩ 2 l38390 (Rd.own 0 3 rfl) 0 (encI .i64) encI_of x50074 h69564 h61765 3 1 0 1 rfl (.int .i64 (l38390.getD x50074.toNat 0)) 32 (by kernel_rfl) (by kernel_rfl) (by kernel_rfl) (by kernel_rfl)) ?_)
            refine EL.quick 1 [1, 6, 27, 28, 29] [(1, .slice A7 l6.length C8), (6, .int .i64 (l38390.getD x50074.toNat 0)), (27, .slice (some ⟨g38389, 0, none⟩) l38390.length 2), (28, .int .i64 (l38390.length : Int)), (29, .int .i64 x50074)] (by kernel_rfl) ?_
            refine EL.done (by kernel_rfl) ?_
            refine EQ.code ?_
            refine EW.seq (x := Cd3.r.r.r.l.r.l.l.r.r.l.l.r.l) (y := Cd3.r.r.r.l.r.l.l.r.r.l.l.r.r) (by kernel_rfl) ?_
            refine EW.region (id := 8) (ops := Cd3.r.r.r.l.r.l.l.r.r.l.l.r.l.ops) (by kernel_rfl) ?_
            refine EL.quick 1 [1, 6, 27, 28, 29, 33] [(1, .slice A7 l6.length C8), (6, .int .i64 (l38390.getD x50074.toNat 0)), (27, .slice (some ⟨g38389, 0, none⟩) l38390.length 2), (28, .int .i64 (l38390.length : Int)), (29, .int .i64 x50074), (33, .int .i64 (l38390.getD x50074.toNat 0))] (by kernel_rfl) ?_
            obtain ⟨t69578, t69579, t69580, hc69584, H⟩ := b3_out H
            refine EL.of (EO.callD 16 [.int .i64 (l38390.getD x50074.toNat 0)] _ 34 (by kernel_rfl) (by kernel_rfl) (by kernel_rfl) (ring_New.calls hc69584 hS) ?_)
            rintro v w ⟨g69581, A69582, C69583, rfl, hS⟩
            refine EL.quick 1 [1, 27, 28, 29, 34, 35] [(1, .slice A7 l6.length C8), (27, .slice (some ⟨g38389, 0, none⟩) l38390.length 2), (28, .int .i64 (l38390.length : Int)), (29, .int .i64 x50074), (34, .pointer (some ⟨g69581, 0, none⟩)), (35, .int .i64 (l38390.getD x50074.toNat 0))] (by kernel_rfl) ?_
            obtain ⟨t69585, t69586, hc69590, H⟩ := b2_out H
            refine EL.of (EO.callD 17 [.int .i64 (l38390.getD x50074.toNat 0)] _ 36 (by kernel_rfl) (by kernel_rfl) (by kernel_rfl) (confidantref15_NewRing.calls hc69590 hS) ?_)
            rintro v w ⟨g69587, A69588, C69589, rfl, hS⟩
            refine EL.quick 2 [1, 7, 8, 27, 28, 29] [(1, .slice A7 l6.length C8), (7, .pointer (some ⟨g69581, 0, none⟩)), (8, .pointer (some ⟨g69587, 0, none⟩)), (27, .slice (some ⟨g38389, 0, none⟩) l38390.length 2), (28, .int .i64 (l38390.length : Int)), (29, .int .i64 x50074)] (by kernel_rfl) ?_
            refine EL.done (by kernel_rfl) ?_
            refine EQ.code ?_
            refine EW.seq (x := Cd3.r.r.r.l.r.l.l.r.r.l.l.r.r.l) (y := Cd3.r.r.r.l.r.l.l.r.r.l.l.r.r.r) (by kernel_rfl) ?_
            refine EW.seq (x := Cd3.r.r.r.l.r.l.l.r.r.l.l.r.r.l.l) (y := Cd3.r.r.r.l.r.l.l.r.r.l.l.r.r.l.r) (by kernel_rfl) ?_
            obtain ⟨t69604, t69605, t69606, hc69607, H⟩ := b3_out H
            have hS := hS.drew
            refine EW.draw (B := B) (id := 9) (ops := Cd3.r.r.r.l.r.l.l.r.r.l.l.r.r.l.l.ops) [Ass.box 32 g69587 [.int .i64 t69585, .slice A69588 t69586.length C69589], Ass.own 37 kS37 A69582 C69583 t69578, Ass.own 3 (Kd.int .i64) (some ⟨g38389, 0, none⟩) 2 l38390] [Ro.sl kS37 A69588 C69589 t69586, Ro.sl (Kd.int .u8) A7 C8 l6] (by kernel_rfl) (by kernel_rfl) ?_
            have hN : Region.noSelect Cd3.r.r.r.l.r.l.l.r.r.l.l.r.r.l.l.ops = true := (by kernel_rfl)
            have hF : freeAll Cd3.r.r.r.l.r.l.l.r.r.l.l.r.r.l.l.ops = true := (by kernel_rfl)
            have hC : Core B [Ass.box 32 g69587 [.int .i64 t69585, .slice A69588 t69586.length C69589], Ass.own 37 kS37 A69582 C69583 t69578, Ass.own 3 (Kd.int .i64) (some ⟨g38389, 0, none⟩) 2 l38390] [Ro.sl kS37 A69588 C69589 t69586, Ro.sl (Kd.int .u8) A7 C8 l6] _ := ⟨_, _, hS.re [3, 3, 2] [] rfl sub_self⟩
            refine ED.quick hN hF hC [0, 2, 3, 4] [1, 7, 8, 27, 28, 29, 37, 41] 3 [(1, .slice A7 l6.length C8), (7, .pointer (some ⟨g69581, 0, none⟩)), (8, .pointer (some ⟨g69587, 0, none⟩)), (27, .slice (some ⟨g38389, 0, none⟩) l38390.length 2), (28, .int .i64 (l38390.length : Int)), (29, .int .i64 x50074), (37, .pointer (some ⟨g69581, 0, none⟩)), (41, .pointer (some ⟨g69587, 0, none⟩))] #[true, false, true, true, true, false, false] (by kernel_rfl) (by kernel_rfl) ?_
            refine ED.Y hN hF hC 5 2 #[true, false, true, true, true, true, false] (by kernel_rfl) (by kernel_rfl) rfl (fun _ _ _ hS => YO.loadBox hS 0 rfl 3 0 1 (.int .i64 t69585) 42 (by kernel_rfl) (by kernel_rfl) (by kernel_rfl) (by kernel_rfl)) ?_
            have hS : St B _ (Ass.box 90 g69581 [.slice A69582 t69578.length C69583, .int .i64 t69579, .int .i64 t69580] :: Ass.own 37 kS37 A69582 C69583 t69578 :: Ass.box 32 g69587 [.int .i64 t69585, .slice A69588 t69586.length C69589] :: Ass.own 3 (Kd.int .i64) (some ⟨g38389, 0, none⟩) 2 l38390 :: os) (Ro.sl kS37 A69588 C69589 t69586 :: Ro.sl (Kd.int .u8) A7 C8 l6 :: rs) := hS.re [2, 2] [] rfl sub_self
            refine ED.one 1 1 #[true, true, true, true, true, true, false] (by kernel_rfl) (by kernel_rfl) (by kernel_rfl) (EO.callD 18 [.pointer (some ⟨g69581, 0, none⟩)] _ 38 (by kernel_rfl) (by kernel_rfl) (by kernel_rfl) (ring_Ring_Room.calls hc69607 hS) ?_)
            rintro v w ⟨rfl, hS⟩
            have hC : Core B [Ass.box 32 g69587 [.int .i64 t69585, .slice A69588 t69586.length C69589], Ass.own 37 kS37 A69582 C69583 t69578, Ass.own 3 (Kd.int .i64) (some ⟨g38389, 0, none⟩) 2 l38390] [Ro.sl kS37 A69588 C69589 t69586, Ro.sl (Kd.int .u8) A7 C8 l6] _ := ⟨_, _, hS.re [3, 2, 3] [] rfl sub_self⟩
            refine ⟨hC, ?_⟩
            refine ED.quick hN hF hC [6] [1, 7, 8, 27, 28, 29, 43] 0 [(1, .slice A7 l6.length C8), (7, .pointer (some ⟨g69581, 0, none⟩)), (8, .pointer (some ⟨g69587, 0, none⟩)), (27, .slice (some ⟨g38389, 0, none⟩) l38390.length 2), (28, .int .i64 (l38390.length : Int)), (29, .int .i64 x50074), (43, .bool (!(decide (t69606 = t69585))))] #[true, true, true, true, true, true, true] (by kernel_rfl) (by kernel_rfl) ?_
            refine ED.done (by kernel_rfl) ?_
            refine EQ.code ?_
            refine EW.condQ (b := !(decide (t69606 = t69585))) (o := (.tmp 43)) (x := Cd3.r.r.r.l.r.l.l.r.r.l.l.r.r.l.r.l) (y := Cd3.r.r.r.l.r.l.l.r.r.l.l.r.r.l.r.r) (t69606 = t69585) (false) (by kernel_rfl) (by kernel_rfl) ⟨fun h => (by rw [decide_eq_true h] <;> rfl), fun h => (by rw [decide_eq_false h] <;> rfl)⟩ (fun h69608 => ?_) (fun h69608 => ?_)
            · rw [if_pos h69608] at H
              refine EW.skip (by kernel_rfl) ?_
              refine EQ.code ?_
              refine EW.seq (x := Cd3.r.r.r.l.r.l.l.r.r.l.l.r.r.r.l) (y := Cd3.r.r.r.l.r.l.l.r.r.l.l.r.r.r.r) (by kernel_rfl) ?_
              refine EW.region (id := 11) (ops := Cd3.r.r.r.l.r.l.l.r.r.l.l.r.r.r.l.ops) (by kernel_rfl) ?_
              refine EL.quick 1 [1, 7, 8, 9, 27, 28, 29] [(1, .slice A7 l6.length C8), (7, .pointer (some ⟨g69581, 0, none⟩)), (8, .pointer (some ⟨g69587, 0, none⟩)), (9, .int .i64 0), (27, .slice (some ⟨g38389, 0, none⟩) l38390.length 2), (28, .int .i64 (l38390.length : Int)), (29, .int .i64 x50074)] (by kernel_rfl) ?_
              refine EL.done (by kernel_rfl) ?_
              refine EQ.code ?_
              refine EW.block (x := Cd3.r.r.r.l.r.l.l.r.r.l.l.r.r.r.r.l) (id := 2) (by kernel_rfl) ?_
              refine EW.loop (x := Cd3.r.r.r.l.r.l.l.r.r.l.l.r.r.r.r.l.l) (fun n a w => ∃ x70885 : List S37, ∃ x70888 : Int, ∃ x70889 : Int, ∃ x70890 : Int, ∃ x70891 : List S37, ∃ x70894 : Int, ∃ A70886 : Option Addr, ∃ C70887 : Nat, ∃ A70892 : Option Addr, ∃ C70893 : Nat, Sat 147 [(1, .slice A7 l6.length C8), (7, .pointer (some ⟨g69581, 0, none⟩)), (8, .pointer (some ⟨g69587, 0, none⟩)), (9, .int .i64 x70894), (27, .slice (some ⟨g38389, 0, none⟩) l38390.length 2), (28, .int .i64 (l38390.length : Int)), (29, .int .i64 x50074)] a ∧ St B w (Ass.box 90 g69581 [.slice A70886 x70885.length C70887, .int .i64 x70888, .int .i64 x70889] :: Ass.own 37 kS37 A70886 C70887 x70885 :: Ass.box 32 g69587 [.int .i64 x70890, .slice A70892 x70891.length C70893] :: Ass.own 3 (Kd.int .i64) (some ⟨g38389, 0, none⟩) 2 l38390 :: os) (Ro.sl kS37 A70892 C70893 x70891 :: Ro.sl kS37 A69588 C69589 t69586 :: Ro.sl (Kd.int .u8) A7 C8 l6 :: rs) ∧ confidantlaw15_RingPlays.l1 K l6 j69562 n x70885 x70888 x70889 x70890 x70891 x70894 = some x38374) K (by kernel_rfl) ?_ (fun n a w hI => ?_)
              · refine EQ.keep [1, 7, 8, 9, 27, 28, 29] [(1, .slice A7 l6.length C8), (7, .pointer (some ⟨g69581, 0, none⟩)), (8, .pointer (some ⟨g69587, 0, none⟩)), (9, .int .i64 0), (27, .slice (some ⟨g38389, 0, none⟩) l38390.length 2), (28, .int .i64 (l38390.length : Int)), (29, .int .i64 x50074)] (by kernel_rfl) ?_
                exact fun a ha => ⟨t69578, t69604, t69605, t69585, t69586, 0, A69582, C69583, A69588, C69589, ha, (hS.re [3, 3, 3, 3] [] rfl (sub_cons 0 rfl (sub_cons 0 rfl (sub_cons 1 rfl (sub_tail (sub_tail (sub_self))))))), H⟩
              · obtain ⟨x70885, x70888, x70889, x70890, x70891, x70894, A70886, C70887, A70892, C70893, ha, hS, H⟩ := hI
                obtain _ | n := n
                · simp [confidantlaw15_RingPlays.l1] at H
                rw [confidantlaw15_RingPlays.l1.eq_2] at H
                refine EW.at ?_ a ha
                clear ha a
                refine EW.seq (x := Cd3.r.r.r.l.r.l.l.r.r.l.l.r.r.r.r.l.l.l) (y := Cd3.r.r.r.l.r.l.l.r.r.l.l.r.r.r.r.l.l.r) (by kernel_rfl) ?_
                refine EW.seq (x := Cd3.r.r.r.l.r.l.l.r.r.l.l.r.r.r.r.l.l.l.l) (y := Cd3.r.r.r.l.r.l.l.r.r.l.l.r.r.r.r.l.l.l.r) (by kernel_rfl) ?_
                refine EW.region (id := 12) (ops := Cd3.r.r.r.l.r.l.l.r.r.l.l.r.r.r.r.l.l.l.l.ops) (by kernel_rfl) ?_
                refine EL.quick 4 [1, 7, 8, 9, 27, 28, 29, 47] [(1, .slice A7 l6.length C8), (7, .pointer (some ⟨g69581, 0, none⟩)), (8, .pointer (some ⟨g69587, 0, none⟩)), (9, .int .i64 x70894), (27, .slice (some ⟨g38389, 0, none⟩) l38390.length 2), (28, .int .i64 (l38390.length : Int)), (29, .int .i64 x50074), (47, .bool (decide (x70894 < (l6.length : Int))))] (by kernel_rfl) ?_
                refine EL.done (by kernel_rfl) ?_
                refine EQ.code ?_
                refine EW.condP (o := (.tmp 47)) (x := Cd3.r.r.r.l.r.l.l.r.r.l.l.r.r.r.r.l.l.l.r.l) (y := Cd3.r.r.r.l.r.l.l.r.r.l.l.r.r.r.r.l.l.l.r.r) (x70894 < (l6.length : Int)) (by kernel_rfl) (by kernel_rfl) (fun h72184 => ?_) (fun h72184 => ?_)
                · rw [if_pos h72184] at H
                  refine EW.skip (by kernel_rfl) ?_
                  refine EQ.code ?_
                  refine EW.seq (x := Cd3.r.r.r.l.r.l.l.r.r.l.l.r.r.r.r.l.l.r.l) (y := Cd3.r.r.r.l.r.l.l.r.r.l.l.r.r.r.r.l.l.r.r) (by kernel_rfl) ?_
                  refine EW.block (x := Cd3.r.r.r.l.r.l.l.r.r.l.l.r.r.r.r.l.l.r.l.l) (id := 3) (by kernel_rfl) ?_
                  obtain ⟨j73214, hj73214, H⟩ := lt_out H
                  refine EW.cut (x := Cd3.r.r.r.l.r.l.l.r.r.l.l.r.r.r.r.l.l.r.l.l.l) (y := Cd3.r.r.r.l.r.l.l.r.r.l.l.r.r.r.r.l.l.r.l.l.r) (fun a w => ∃ x73205 : Int, ∃ x73206 : List S37, ∃ x73209 : List S37, ∃ x73212 : Int, ∃ x73213 : Int, ∃ A73207 : Option Addr, ∃ C73208 : Nat, ∃ A73210 : Option Addr, ∃ C73211 : Nat, Sat 147 [(1, .slice A7 l6.length C8), (7, .pointer (some ⟨g69581, 0, none⟩)), (8, .pointer (some ⟨g69587, 0, none⟩)), (9, .int .i64 x70894), (27, .slice (some ⟨g38389, 0, none⟩) l38390.length 2), (28, .int .i64 (l38390.length : Int)), (29, .int .i64 x50074)] a ∧ St B w (Ass.box 32 g69587 [.int .i64 x73205, .slice A73207 x73206.length C73208] :: Ass.box 90 g69581 [.slice A73210 x73209.length C73211, .int .i64 x73212, .int .i64 x73213] :: Ass.own 37 kS37 A73210 C73211 x73209 :: Ass.own 3 (Kd.int .i64) (some ⟨g38389, 0, none⟩) 2 l38390 :: os) (Ro.sl kS37 A73207 C73208 x73206 :: Ro.sl kS37 A70892 C70893 x70891 :: Ro.sl kS37 A70892 C70893 x70891 :: Ro.sl kS37 A69588 C69589 t69586 :: Ro.sl (Kd.int .u8) A7 C8 l6 :: rs) ∧ j73214 x73205 x73206 x73209 x73212 x73213 = some x38374) (by kernel_rfl) ?_ (fun a w hI => ?_)
                  · refine EW.seq (x := Cd3.r.r.r.l.r.l.l.r.r.l.l.r.r.r.r.l.l.r.l.l.l.l) (y := Cd3.r.r.r.l.r.l.l.r.r.l.l.r.r.r.r.l.l.r.l.l.l.r) (by kernel_rfl) ?_
                    refine EW.region (id := 14) (ops := Cd3.r.r.r.l.r.l.l.r.r.l.l.r.r.r.r.l.l.r.l.l.l.l.ops) (by kernel_rfl) ?_
                    refine EL.quick 2 [1, 7, 8, 9, 27, 28, 29, 50, 51] [(1, .slice A7 l6.length C8), (7, .pointer (some ⟨g69581, 0, none⟩)), (8, .pointer (some ⟨g69587, 0, none⟩)), (9, .int .i64 x70894), (27, .slice (some ⟨g38389, 0, none⟩) l38390.length 2), (28, .int .i64 (l38390.length : Int)), (29, .int .i64 x50074), (50, .slice A7 l6.length C8), (51, .int .i64 x70894)] (by kernel_rfl) ?_
                    obtain ⟨h73217, H⟩ := ite_in H
                    obtain ⟨ad73218, rfl⟩ := St.rd_some hS (Rd.ro 2 rfl) h73217 h72184
                    refine EL.of (EO.Y (YO.idx 22 1 ad73218 l6.length C8 .i64 x70894 52 (by kernel_rfl) (by kernel_rfl) (by kernel_rfl) (by kernel_rfl) h73217 h72184) ?_)
                    refine EL.of (EO.Y (YO.loadEl hS (Kd.int .u8) ad73218 C8 l6 (Rd.ro 2 rfl) 0 (encI .u8) encI_of x70894 h73217 h72184 5 1 0 1 rfl (.int .u8 (l6.getD x70894.toNat 0)) 53 (by kernel_rfl) (by kernel_rfl) (by kernel_rfl) (by kernel_rfl)) ?_)
                    refine EL.quick 1 [1, 7, 8, 9, 27, 28, 29, 54] [(1, .slice (some ad73218) l6.length C8), (7, .pointer (some ⟨g69581, 0, none⟩)), (8, .pointer (some ⟨g69587, 0, none⟩)), (9, .int .i64 x70894), (27, .slice (some ⟨g38389, 0, none⟩) l38390.length 2), (28, .int .i64 (l38390.length : Int)), (29, .int .i64 x50074), (54, .int .u8 (Int.tmod (l6.getD x70894.toNat 0) 8))] (by kernel_rfl) ?_
                    refine EL.done (by kernel_rfl) ?_
                    refine EQ.code ?_
                    refine EW.block (x := Cd3.r.r.r.l.r.l.l.r.r.l.l.r.r.r.r.l.l.r.l.l.l.r.l) (id := 4) (by kernel_rfl) ?_
                    obtain ⟨j73227, hj73227, H⟩ := lt_out H
                    refine EW.cut (x := Cd3.r.r.r.l.r.l.l.r.r.l.l.r.r.r.r.l.l.r.l.l.l.r.l.l) (y := Cd3.r.r.r.l.r.l.l.r.r.l.l.r.r.r.r.l.l.r.l.l.l.r.l.r) (fun a w => ∃ x73226 : Bool, Sat 147 [(1, .slice (some ad73218) l6.length C8), (7, .pointer (some ⟨g69581, 0, none⟩)), (8, .pointer (some ⟨g69587, 0, none⟩)), (9, .int .i64 x70894), (27, .slice (some ⟨g38389, 0, none⟩) l38390.length 2), (28, .int .i64 (l38390.length : Int)), (29, .int .i64 x50074), (54, .int .u8 (Int.tmod (l6.getD x70894.toNat 0) 8)), (61, .bool (x73226))] a ∧ St B w (Ass.box 90 g69581 [.slice A70886 x70885.length C70887, .int .i64 x70888, .int .i64 x70889] :: Ass.own 37 kS37 A70886 C70887 x70885 :: Ass.box 32 g69587 [.int .i64 x70890, .slice A70892 x70891.length C70893] :: Ass.own 3 (Kd.int .i64) (some ⟨g38389, 0, none⟩) 2 l38390 :: os) (Ro.sl kS37 A70892 C70893 x70891 :: Ro.sl kS37 A69588 C69589 t69586 :: Ro.sl (Kd.int .u8) (some ad73218) C8 l6 :: rs) ∧ j73227 x73226 = some x38374) (by kernel_rfl) ?_ (fun a w hI => ?_)
                    · refine EW.seq (x := Cd3.r.r.r.l.r.l.l.r.r.l.l.r.r.r.r.l.l.r.l.l.l.r.l.l.l) (y := Cd3.r.r.r.l.r.l.l.r.r.l.l.r.r.r.r.l.l.r.l.l.l.r.l.l.r) (by kernel_rfl) ?_
                      refine EW.region (id := 17) (ops := Cd3.r.r.r.l.r.l.l.r.r.l.l.r.r.r.r.l.l.r.l.l.l.r.l.l.l.ops) (by kernel_rfl) ?_
                      refine EL.quick 2 [1, 7, 8, 9, 27, 28, 29, 54, 61] [(1, .slice (some ad73218) l6.length C8), (7, .pointer (some ⟨g69581, 0, none⟩)), (8, .pointer (some ⟨g69587, 0, none⟩)), (9, .int .i64 x70894), (27, .slice (some ⟨g38389, 0, none⟩) l38390.length 2), (28, .int .i64 (l38390.length : Int)), (29, .int .i64 x50074), (54, .int .u8 (Int.tmod (l6.getD x70894.toNat 0) 8)), (61, .bool (decide ((Int.tmod (l6.getD x70894.toNat 0) 8) = 0)))] (by kernel_rfl) ?_
                      refine EL.done (by kernel_rfl) ?_
                      refine EQ.code ?_
                      refine EW.condP (o := (.tmp 61)) (x := Cd3.r.r.r.l.r.l.l.r.r.l.l.r.r.r.r.l.l.r.l.l.l.r.l.l.r.l) (y := Cd3.r.r.r.l.r.l.l.r.r.l.l.r.r.r.r.l.l.r.l.l.l.r.l.l.r.r) ((Int.tmod (l6.getD x70894.toNat 0) 8) = 0) (by kernel_rfl) (by kernel_rfl) (fun h73228 => ?_) (fun h73228 => ?_)
                      · rw [if_pos h73228] at H
                        refine EW.keep [1, 7, 8, 9, 27, 28, 29, 54, 61] [(1, .slice (some ad73218) l6.length C8), (7, .pointer (some ⟨g69581, 0, none⟩)), (8, .pointer (some ⟨g69587, 0, none⟩)), (9, .int .i64 x70894), (27, .slice (some ⟨g38389, 0, none⟩) l38390.length 2), (28, .int .i64 (l38390.length : Int)), (29, .int .i64 x50074), (54, .int .u8 (Int.tmod (l6.getD x70894.toNat 0) 8)), (61, .bool (decide ((Int.tmod (l6.getD x70894.toNat 0) 8) = 0)))] (by kernel_rfl) ?_
                        refine EW.as' [(1, .slice (some ad73218) l6.length C8), (7, .pointer (some ⟨g69581, 0, none⟩)), (8, .pointer (some ⟨g69587, 0, none⟩)), (9, .int .i64 x70894), (27, .slice (some ⟨g38389, 0, none⟩) l38390.length 2), (28, .int .i64 (l38390.length : Int)), (29, .int .i64 x50074), (54, .int .u8 (Int.tmod (l6.getD x70894.toNat 0) 8)), (61, .bool (true))] (by simp only [dec_t h73228, Bool.not_true, Bool.not_false]) ?_
                        refine EW.skip (by kernel_rfl) ?_
                        refine EQ.to ?_
                        refine EQ.keep [1, 7, 8, 9, 27, 28, 29, 54, 61] [(1, .slice (some ad73218) l6.length C8), (7, .pointer (some ⟨g69581, 0, none⟩)), (8, .pointer (some ⟨g69587, 0, none⟩)), (9, .int .i64 x70894), (27, .slice (some ⟨g38389, 0, none⟩) l38390.length 2), (28, .int .i64 (l38390.length : Int)), (29, .int .i64 x50074), (54, .int .u8 (Int.tmod (l6.getD x70894.toNat 0) 8)), (61, .bool (true))] (by kernel_rfl) ?_
                        exact fun a ha => ⟨true, ha, (hS.re [3, 3, 3, 3] [] rfl (sub_cons 0 rfl (sub_cons 1 rfl (sub_cons 2 rfl (sub_tail (sub_tail (sub_tail (sub_self)))))))), H⟩
                      · rw [if_neg h73228] at H
                        refine EW.seq (x := Cd3.r.r.r.l.r.l.l.r.r.l.l.r.r.r.r.l.l.r.l.l.l.r.l.l.r.r.l) (y := Cd3.r.r.r.l.r.l.l.r.r.l.l.r.r.r.r.l.l.r.l.l.l.r.l.l.r.r.r) (by kernel_rfl) ?_
                        refine EW.region (id := 18) (ops := Cd3.r.r.r.l.r.l.l.r.r.l.l.r.r.r.r.l.l.r.l.l.l.r.l.l.r.r.l.ops) (by kernel_rfl) ?_
                        refine EL.quick 2 [1, 7, 8, 9, 27, 28, 29, 54, 61] [(1, .slice (some ad73218) l6.length C8), (7, .pointer (some ⟨g69581, 0, none⟩)), (8, .pointer (some ⟨g69587, 0, none⟩)), (9, .int .i64 x70894), (27, .slice (some ⟨g38389, 0, none⟩) l38390.length 2), (28, .int .i64 (l38390.length : Int)), (29, .int .i64 x50074), (54, .int .u8 (Int.tmod (l6.getD x70894.toNat 0) 8)), (61, .bool (decide ((Int.tmod (l6.getD x70894.toNat 0) 8) = 1)))] (by kernel_rfl) ?_
                        refine EL.done (by kernel_rfl) ?_
                        refine EQ.code ?_
                        refine EW.condP (o := (.tmp 61)) (x := Cd3.r.r.r.l.r.l.l.r.r.l.l.r.r.r.r.l.l.r.l.l.l.r.l.l.r.r.r.l) (y := Cd3.r.r.r.l.r.l.l.r.r.l.l.r.r.r.r.l.l.r.l.l.l.r.l.l.r.r.r.r) ((Int.tmod (l6.getD x70894.toNat 0) 8) = 1) (by kernel_rfl) (by kernel_rfl) (fun h73229 => ?_) (fun h73229 => ?_)
                        · rw [if_pos h73229] at H
                          refine EW.keep [1, 7, 8, 9, 27, 28, 29, 54, 61] [(1, .slice (some ad73218) l6.length C8), (7, .pointer (some ⟨g69581, 0, none⟩)), (8, .pointer (some ⟨g69587, 0, none⟩)), (9, .int .i64 x70894), (27, .slice (some ⟨g38389, 0, none⟩) l38390.length 2), (28, .int .i64 (l38390.length : Int)), (29, .int .i64 x50074), (54, .int .u8 (Int.tmod (l6.getD x70894.toNat 0) 8)), (61, .bool (decide ((Int.tmod (l6.getD x70894.toNat 0) 8) = 1)))] (by kernel_rfl) ?_
                          refine EW.as' [(1, .slice (some ad73218) l6.length C8), (7, .pointer (some ⟨g69581, 0, none⟩)), (8, .pointer (some ⟨g69587, 0, none⟩)), (9, .int .i64 x70894), (27, .slice (some ⟨g38389, 0, none⟩) l38390.length 2), (28, .int .i64 (l38390.length : Int)), (29, .int .i64 x50074), (54, .int .u8 (Int.tmod (l6.getD x70894.toNat 0) 8)), (61, .bool (true))] (by simp only [dec_t h73229, Bool.not_true, Bool.not_false]) ?_
                          refine EW.skip (by kernel_rfl) ?_
                          refine EQ.to ?_
                          refine EQ.keep [1, 7, 8, 9, 27, 28, 29, 54, 61] [(1, .slice (some ad73218) l6.length C8), (7, .pointer (some ⟨g69581, 0, none⟩)), (8, .pointer (some ⟨g69587, 0, none⟩)), (9, .int .i64 x70894), (27, .slice (some ⟨g38389, 0, none⟩) l38390.length 2), (28, .int .i64 (l38390.length : Int)), (29, .int .i64 x50074), (54, .int .u8 (Int.tmod (l6.getD x70894.toNat 0) 8)), (61, .bool (true))] (by kernel_rfl) ?_
                          exact fun a ha => ⟨true, ha, (hS.re [3, 3, 3, 3] [] rfl (sub_cons 0 rfl (sub_cons 1 rfl (sub_cons 2 rfl (sub_tail (sub_tail (sub_tail (sub_self)))))))), H⟩
                        · rw [if_neg h73229] at H
                          refine EW.seq (x := Cd3.r.r.r.l.r.l.l.r.r.l.l.r.r.r.r.l.l.r.l.l.l.r.l.l.r.r.r.r.l) (y := Cd3.r.r.r.l.r.l.l.r.r.l.l.r.r.r.r.l.l.r.l.l.l.r.l.l.r.r.r.r.r) (by kernel_rfl) ?_
                          refine EW.region (id := 19) (ops := Cd3.r.r.r.l.r.l.l.r.r.l.l.r.r.r.r.l.l.r.l.l.l.r.l.l.r.r.r.r.l.ops) (by kernel_rfl) ?_
                          refine EL.quick 2 [1, 7, 8, 9, 27, 28, 29, 54, 61] [(1, .slice (some ad73218) l6.length C8), (7, .pointer (some ⟨g69581, 0, none⟩)), (8, .pointer (some ⟨g69587, 0, none⟩)), (9, .int .i64 x70894), (27, .slice (some ⟨g38389, 0, none⟩) l38390.length 2), (28, .int .i64 (l38390.length : Int)), (29, .int .i64 x50074), (54, .int .u8 (Int.tmod (l6.getD x70894.toNat 0) 8)), (61, .bool (decide ((Int.tmod (l6.getD x70894.toNat 0) 8) = 2)))] (by kernel_rfl) ?_
                          refine EL.done (by kernel_rfl) ?_
                          refine EQ.code ?_
                          refine EW.condP (o := (.tmp 61)) (x := Cd3.r.r.r.l.r.l.l.r.r.l.l.r.r.r.r.l.l.r.l.l.l.r.l.l.r.r.r.r.r.l) (y := Cd3.r.r.r.l.r.l.l.r.r.l.l.r.r.r.r.l.l.r.l.l.l.r.l.l.r.r.r.r.r.r) ((Int.tmod (l6.getD x70894.toNat 0) 8) = 2) (by kernel_rfl) (by kernel_rfl) (fun h73230 => ?_) (fun h73230 => ?_)
                          · rw [if_pos h73230] at H
                            refine EW.keep [1, 7, 8, 9, 27, 28, 29, 54, 61] [(1, .slice (some ad73218) l6.length C8), (7, .pointer (some ⟨g69581, 0, none⟩)), (8, .pointer (some ⟨g69587, 0, none⟩)), (9, .int .i64 x70894), (27, .slice (some ⟨g38389, 0, none⟩) l38390.length 2), (28, .int .i64 (l38390.length : Int)), (29, .int .i64 x50074), (54, .int .u8 (Int.tmod (l6.getD x70894.toNat 0) 8)), (61, .bool (decide ((Int.tmod (l6.getD x70894.toNat 0) 8) = 2)))] (by kernel_rfl) ?_
                            refine EW.as' [(1, .slice (some ad73218) l6.length C8), (7, .pointer (some ⟨g69581, 0, none⟩)), (8, .pointer (some ⟨g69587, 0, none⟩)), (9, .int .i64 x70894), (27, .slice (some ⟨g38389, 0, none⟩) l38390.length 2), (28, .int .i64 (l38390.length : Int)), (29, .int .i64 x50074), (54, .int .u8 (Int.tmod (l6.getD x70894.toNat 0) 8)), (61, .bool (true))] (by simp only [dec_t h73230, Bool.not_true, Bool.not_false]) ?_
                            refine EW.skip (by kernel_rfl) ?_
                            refine EQ.to ?_
                            refine EQ.keep [1, 7, 8, 9, 27, 28, 29, 54, 61] [(1, .slice (some ad73218) l6.length C8), (7, .pointer (some ⟨g69581, 0, none⟩)), (8, .pointer (some ⟨g69587, 0, none⟩)), (9, .int .i64 x70894), (27, .slice (some ⟨g38389, 0, none⟩) l38390.length 2), (28, .int .i64 (l38390.length : Int)), (29, .int .i64 x50074), (54, .int .u8 (Int.tmod (l6.getD x70894.toNat 0) 8)), (61, .bool (true))] (by kernel_rfl) ?_
                            exact fun a ha => ⟨true, ha, (hS.re [3, 3, 3, 3] [] rfl (sub_cons 0 rfl (sub_cons 1 rfl (sub_cons 2 rfl (sub_tail (sub_tail (sub_tail (sub_self)))))))), H⟩
                          · rw [if_neg h73230] at H
                            refine EW.region (id := 20) (ops := Cd3.r.r.r.l.r.l.l.r.r.l.l.r.r.r.r.l.l.r.l.l.l.r.l.l.r.r.r.r.r.r.ops) (by kernel_rfl) ?_
                            refine EL.quick 2 [1, 7, 8, 9, 27, 28, 29, 54, 61] [(1, .slice (some ad73218) l6.length C8), (7, .pointer (some ⟨g69581, 0, none⟩)), (8, .pointer (some ⟨g69587, 0, none⟩)), (9, .int .i64 x70894), (27, .slice (some ⟨g38389, 0, none⟩) l38390.length 2), (28, .int .i64 (l38390.length : Int)), (29, .int .i64 x50074), (54, .int .u8 (Int.tmod (l6.getD x70894.toNat 0) 8)), (61, .bool (decide ((Int.tmod (l6.getD x70894.toNat 0) 8) = 3)))] (by kernel_rfl) ?_
                            refine EL.done (by kernel_rfl) ?_
                            refine EQ.to ?_
                            refine EQ.keep [1, 7, 8, 9, 27, 28, 29, 54, 61] [(1, .slice (some ad73218) l6.length C8), (7, .pointer (some ⟨g69581, 0, none⟩)), (8, .pointer (some ⟨g69587, 0, none⟩)), (9, .int .i64 x70894), (27, .slice (some ⟨g38389, 0, none⟩) l38390.length 2), (28, .int .i64 (l38390.length : Int)), (29, .int .i64 x50074), (54, .int .u8 (Int.tmod (l6.getD x70894.toNat 0) 8)), (61, .bool (decide ((Int.tmod (l6.getD x70894.toNat 0) 8) = 3)))] (by kernel_rfl) ?_
                            exact fun a ha => ⟨decide ((Int.tmod (l6.getD x70894.toNat 0) 8) = 3), ha, (hS.re [3, 3, 3, 3] [] rfl (sub_cons 0 rfl (sub_cons 1 rfl (sub_cons 2 rfl (sub_tail (sub_tail (sub_tail (sub_self)))))))), H⟩
                    · obtain ⟨x73226, ha, hS, H⟩ := hI
                      rw [hj73227] at H
                      (try dsimp only at H)
                      refine EW.at ?_ a ha
                      clear ha a
                      refine EW.condP' (o := (.tmp 61)) (x := Cd3.r.r.r.l.r.l.l.r.r.l.l.r.r.r.r.l.l.r.l.l.l.r.l.r.l) (y := Cd3.r.r.r.l.r.l.l.r.r.l.l.r.r.r.r.l.l.r.l.l.l.r.l.r.r) (x73226) (by kernel_rfl) (by kernel_rfl) (fun h73231 => ?_) (fun h73231 => ?_)
                      · rw [if_pos h73231] at H
                        refine EW.seq (x := Cd3.r.r.r.l.r.l.l.r.r.l.l.r.r.r.r.l.l.r.l.l.l.r.l.r.l.l) (y := Cd3.r.r.r.l.r.l.l.r.r.l.l.r.r.r.r.l.l.r.l.l.l.r.l.r.l.r) (by kernel_rfl) ?_
                        refine EW.region (id := 21) (ops := Cd3.r.r.r.l.r.l.l.r.r.l.l.r.r.r.r.l.l.r.l.l.l.r.l.r.l.l.ops) (by kernel_rfl) ?_
                        refine EL.quick 4 [1, 7, 8, 9, 27, 28, 29, 67, 68, 69] [(1, .slice (some ad73218) l6.length C8), (7, .pointer (some ⟨g69581, 0, none⟩)), (8, .pointer (some ⟨g69587, 0, none⟩)), (9, .int .i64 x70894), (27, .slice (some ⟨g38389, 0, none⟩) l38390.length 2), (28, .int .i64 (l38390.length : Int)), (29, .int .i64 x50074), (67, .int .i32 (IntKind.i32.wrap x70894)), (68, .slice (some ad73218) l6.length C8), (69, .int .i64 x70894)] (by kernel_rfl) ?_
                        refine EL.of (EO.Y (YO.idx 22 1 ad73218 l6.length C8 .i64 x70894 70 (by kernel_rfl) (by kernel_rfl) (by kernel_rfl) (by kernel_rfl) h73217 h72184) ?_)
                        refine EL.of (EO.Y (YO.loadEl hS (Kd.int .u8) ad73218 C8 l6 (Rd.ro 2 rfl) 0 (encI .u8) encI_of x70894 h73217 h72184 5 1 0 1 rfl (.int .u8 (l6.getD x70894.toNat 0)) 71 (by kernel_rfl) (by kernel_rfl) (by kernel_rfl) (by kernel_rfl)) ?_)
                        refine EL.quick 4 [1, 7, 8, 9, 27, 28, 29, 67, 73, 75] [(1, .slice (some ad73218) l6.length C8), (7, .pointer (some ⟨g69581, 0, none⟩)), (8, .pointer (some ⟨g69587, 0, none⟩)), (9, .int .i64 x70894), (27, .slice (some ⟨g38389, 0, none⟩) l38390.length 2), (28, .int .i64 (l38390.length : Int)), (29, .int .i64 x50074), (67, .int .i32 (IntKind.i32.wrap x70894)), (73, .int .i64 (IntKind.i64.wrap (IntKind.u8.wrap (Int.tdiv (l6.getD x70894.toNat 0) 8)))), (75, .int .i32 (IntKind.i32.wrap x70894))] (by kernel_rfl) ?_
                        obtain ⟨l73236, hl73236, H⟩ := lt_out H
                        refine EL.of (EO.lit hS (Kd.int .i32) 21 33 1 #[(0, .int .i32 (IntKind.i32.wrap x70894))] [.int .i32 (IntKind.i32.wrap x70894)] l73236 76 (by kernel_rfl) (by kernel_rfl) (by kernel_rfl) (fun _ => (by kernel_rfl)) (by rw [hl73236]; rfl) (by kernel_rfl) (fun w G hr => (by rw [hl73236]; exact ⟨[.int .i32 (IntKind.i32.wrap x70894)], [], rfl, rfl, rfl⟩)) ?_)
                        intro g73235 w hS
                        refine EL.quick 1 [1, 7, 8, 9, 27, 28, 29, 77] [(1, .slice (some ad73218) l6.length C8), (7, .pointer (some ⟨g69581, 0, none⟩)), (8, .pointer (some ⟨g69587, 0, none⟩)), (9, .int .i64 x70894), (27, .slice (some ⟨g38389, 0, none⟩) l38390.length 2), (28, .int .i64 (l38390.length : Int)), (29, .int .i64 x50074), (77, .agg #[.int .i32 (IntKind.i32.wrap x70894), .int .i64 0, .int .i64 0, .slice (some ⟨g73235, 0, none⟩) l73236.length 1, .int .i32 0, .int .i32 0, .int .i32 0, .int .i32 0, .int .i64 0, .int .i64 0, .int .u32 0, .int .i64 (IntKind.i64.wrap (IntKind.u8.wrap (Int.tdiv (l6.getD x70894.toNat 0) 8)))])] (by kernel_rfl) ?_
                        refine EL.of (EO.alloc hS 37 (.agg #[.int .i32 0, .int .i64 0, .int .i64 0, .slice none ([] : List Int).length 0, .int .i32 0, .int .i32 0, .int .i32 0, .int .i32 0, .int .i64 0, .int .i64 0, .int .u32 0, .int .i64 0]) [.int .i32 0, .int .i64 0, .int .i64 0, .slice none ([] : List Int).length 0, .int .i32 0, .int .i32 0, .int .i32 0, .int .i32 0, .int .i64 0, .int .i64 0, .int .u32 0, .int .i64 0] 10 (by kernel_rfl) (by kernel_rfl) (by kernel_rfl) (by kernel_rfl) (by first | rfl | kernel_rfl) ?_)
                        intro g73237 w hS
                        refine EL.of (EO.storeBox (os' := Ass.box 37 g73237 [.int .i32 (IntKind.i32.wrap x70894), .int .i64 0, .int .i64 0, .slice (some ⟨g73235, 0, none⟩) l73236.length 1, .int .i32 0, .int .i32 0, .int .i32 0, .int .i32 0, .int .i64 0, .int .i64 0, .int .u32 0, .int .i64 (IntKind.i64.wrap (IntKind.u8.wrap (Int.tdiv (l6.getD x70894.toNat 0) 8)))] :: Ass.own 21 (Kd.int .i32) (some ⟨g73235, 0, none⟩) 1 l73236 :: Ass.box 90 g69581 [.slice A70886 x70885.length C70887, .int .i64 x70888, .int .i64 x70889] :: Ass.own 37 kS37 A70886 C70887 x70885 :: Ass.box 32 g69587 [.int .i64 x70890, .slice A70892 x70891.length C70893] :: Ass.own 3 (Kd.int .i64) (some ⟨g38389, 0, none⟩) 2 l38390 :: os) hS 0 rfl 37 0 (.agg #[.int .i32 (IntKind.i32.wrap x70894), .int .i64 0, .int .i64 0, .slice (some ⟨g73235, 0, none⟩) l73236.length 1, .int .i32 0, .int .i32 0, .int .i32 0, .int .i32 0, .int .i64 0, .int .i64 0, .int .u32 0, .int .i64 (IntKind.i64.wrap (IntKind.u8.wrap (Int.tdiv (l6.getD x70894.toNat 0) 8)))]) [.int .i32 (IntKind.i32.wrap x70894), .int .i64 0, .int .i64 0, .slice (some ⟨g73235, 0, none⟩) l73236.length 1, .int .i32 0, .int .i32 0, .int .i32 0, .int .i32 0, .int .i64 0, .int .i64 0, .int .u32 0, .int .i64 (IntKind.i64.wrap (IntKind.u8.wrap (Int.tdiv (l6.getD x70894.toNat 0) 8)))] (by kernel_rfl) (by kernel_rfl) (by kernel_rfl) (by kernel_rfl) (by kernel_rfl) (by kernel_rfl) rfl rfl ?_)
                        intro w hS
                        refine EL.done (by kernel_rfl) ?_
                        refine EQ.code ?_
                        refine EW.seq (x := Cd3.r.r.r.l.r.l.l.r.r.l.l.r.r.r.r.l.l.r.l.l.l.r.l.r.l.r.l) (y := Cd3.r.r.r.l.r.l.l.r.r.l.l.r.r.r.r.l.l.r.l.l.l.r.l.r.l.r.r) (by kernel_rfl) ?_
                        obtain ⟨t73251, t73252, t73253, t73254, hc73257, H⟩ := b4_out H
                        obtain ⟨t73258, t73259, t73260, hc73263, H⟩ := b3_out H
                        have hS := hS.drew
                        refine EW.draw (B := B) (id := 22) (ops := Cd3.r.r.r.l.r.l.l.r.r.l.l.r.r.r.r.l.l.r.l.l.l.r.l.r.l.r.l.ops) [Ass.box 37 g73237 [.int .i32 (IntKind.i32.wrap x70894), .int .i64 0, .int .i64 0, .slice (some ⟨g73235, 0, none⟩) l73236.length 1, .int .i32 0, .int .i32 0, .int .i32 0, .int .i32 0, .int .i64 0, .int .i64 0, .int .u32 0, .int .i64 (IntKind.i64.wrap (IntKind.u8.wrap (Int.tdiv (l6.getD x70894.toNat 0) 8)))], Ass.own 3 (Kd.int .i64) (some ⟨g38389, 0, none⟩) 2 l38390] [Ro.sl kS37 A70892 C70893 x70891, Ro.sl kS37 A69588 C69589 t69586, Ro.sl (Kd.int .u8) (some ad73218) C8 l6] (by kernel_rfl) (by kernel_rfl) ?_
                        have hN : Region.noSelect Cd3.r.r.r.l.r.l.l.r.r.l.l.r.r.r.r.l.l.r.l.l.l.r.l.r.l.r.l.ops = true := (by kernel_rfl)
                        have hF : freeAll Cd3.r.r.r.l.r.l.l.r.r.l.l.r.r.r.r.l.l.r.l.l.l.r.l.r.l.r.l.ops = true := (by kernel_rfl)
                        have hC : Core B [Ass.box 37 g73237 [.int .i32 (IntKind.i32.wrap x70894), .int .i64 0, .int .i64 0, .slice (some ⟨g73235, 0, none⟩) l73236.length 1, .int .i32 0, .int .i32 0, .int .i32 0, .int .i32 0, .int .i64 0, .int .i64 0, .int .u32 0, .int .i64 (IntKind.i64.wrap (IntKind.u8.wrap (Int.tdiv (l6.getD x70894.toNat 0) 8)))], Ass.own 3 (Kd.int .i64) (some ⟨g38389, 0, none⟩) 2 l38390] [Ro.sl kS37 A70892 C70893 x70891, Ro.sl kS37 A69588 C69589 t69586, Ro.sl (Kd.int .u8) (some ad73218) C8 l6] _ := ⟨_, _, hS.re [5, 1] [] rfl sub_self⟩
                        refine ED.quick hN hF hC [0, 3] [1, 7, 8, 9, 10, 27, 28, 29, 78, 81] 5 [(1, .slice (some ad73218) l6.length C8), (7, .pointer (some ⟨g69581, 0, none⟩)), (8, .pointer (some ⟨g69587, 0, none⟩)), (9, .int .i64 x70894), (10, .pointer (some ⟨g73237, 0, none⟩)), (27, .slice (some ⟨g38389, 0, none⟩) l38390.length 2), (28, .int .i64 (l38390.length : Int)), (29, .int .i64 x50074), (78, .pointer (some ⟨g69581, 0, none⟩)), (81, .pointer (some ⟨g69587, 0, none⟩))] #[true, false, false, true, false, false, false] (by kernel_rfl) (by kernel_rfl) ?_
                        refine ED.Y hN hF hC 1 4 #[true, true, false, true, false, false, false] (by kernel_rfl) (by kernel_rfl) rfl (fun _ _ _ hS => YO.loadBox hS 0 rfl 37 0 12 (.agg #[.int .i32 (IntKind.i32.wrap x70894), .int .i64 0, .int .i64 0, .slice (some ⟨g73235, 0, none⟩) l73236.length 1, .int .i32 0, .int .i32 0, .int .i32 0, .int .i32 0, .int .i64 0, .int .i64 0, .int .u32 0, .int .i64 (IntKind.i64.wrap (IntKind.u8.wrap (Int.tdiv (l6.getD x70894.toNat 0) 8)))]) 79 (by kernel_rfl) (by kernel_rfl) (by kernel_rfl) (by kernel_rfl)) ?_
                        refine ED.Y hN hF hC 4 3 #[true, true, false, true, true, false, false] (by kernel_rfl) (by kernel_rfl) rfl (fun _ _ _ hS => YO.loadBox hS 0 rfl 37 0 12 (.agg #[.int .i32 (IntKind.i32.wrap x70894), .int .i64 0, .int .i64 0, .slice (some ⟨g73235, 0, none⟩) l73236.length 1, .int .i32 0, .int .i32 0, .int .i32 0, .int .i32 0, .int .i64 0, .int .i64 0, .int .u32 0, .int .i64 (IntKind.i64.wrap (IntKind.u8.wrap (Int.tdiv (l6.getD x70894.toNat 0) 8)))]) 82 (by kernel_rfl) (by kernel_rfl) (by kernel_rfl) (by kernel_rfl)) ?_
                        have hS := St.fr hS 1 rfl
                        have hS : St B _ (Ass.box 90 g69581 [.slice A70886 x70885.length C70887, .int .i64 x70888, .int .i64 x70889] :: Ass.own 37 kS37 A70886 C70887 x70885 :: Ass.box 37 g73237 [.int .i32 (IntKind.i32.wrap x70894), .int .i64 0, .int .i64 0, .slice (some ⟨g73235, 0, none⟩) l73236.length 1, .int .i32 0, .int .i32 0, .int .i32 0, .int .i32 0, .int .i64 0, .int .i64 0, .int .u32 0, .int .i64 (IntKind.i64.wrap (IntKind.u8.wrap (Int.tdiv (l6.getD x70894.toNat 0) 8)))] :: Ass.box 32 g69587 [.int .i64 x70890, .slice A70892 x70891.length C70893] :: Ass.own 3 (Kd.int .i64) (some ⟨g38389, 0, none⟩) 2 l38390 :: os) (Ro.sl (Kd.int .i32) (some ⟨g73235, 0, none⟩) 1 l73236 :: Ro.sl (Kd.int .i32) (some ⟨g73235, 0, none⟩) 1 l73236 :: Ro.sl kS37 A70892 C70893 x70891 :: Ro.sl kS37 A69588 C69589 t69586 :: Ro.sl (Kd.int .u8) (some ad73218) C8 l6 :: rs) := hS.re [2, 2] [] rfl (sub_cons 0 rfl sub_self)
                        refine ED.one 2 2 #[true, true, true, true, true, false, false] (by kernel_rfl) (by kernel_rfl) (by kernel_rfl) (EO.callD 19 [.pointer (some ⟨g69581, 0, none⟩), .agg #[.int .i32 (IntKind.i32.wrap x70894), .int .i64 0, .int .i64 0, .slice (some ⟨g73235, 0, none⟩) l73236.length 1, .int .i32 0, .int .i32 0, .int .i32 0, .int .i32 0, .int .i64 0, .int .i64 0, .int .u32 0, .int .i64 (IntKind.i64.wrap (IntKind.u8.wrap (Int.tdiv (l6.getD x70894.toNat 0) 8)))]] _ 80 (by kernel_rfl) (by kernel_rfl) (by kernel_rfl) (ring_Ring_Push.calls hc73257 hS) ?_)
                        rintro v w ⟨A73268, C73269, rfl, hS⟩
                        have hC : Core B [Ass.box 37 g73237 [.int .i32 (IntKind.i32.wrap x70894), .int .i64 0, .int .i64 0, .slice (some ⟨g73235, 0, none⟩) l73236.length 1, .int .i32 0, .int .i32 0, .int .i32 0, .int .i32 0, .int .i64 0, .int .i64 0, .int .u32 0, .int .i64 (IntKind.i64.wrap (IntKind.u8.wrap (Int.tdiv (l6.getD x70894.toNat 0) 8)))], Ass.own 3 (Kd.int .i64) (some ⟨g38389, 0, none⟩) 2 l38390] [Ro.sl kS37 A70892 C70893 x70891, Ro.sl kS37 A69588 C69589 t69586, Ro.sl (Kd.int .u8) (some ad73218) C8 l6] _ := ⟨_, _, hS.re [4, 3] [] rfl (sub_cons 2 rfl (sub_cons 3 rfl (sub_cons 4 rfl sub_self)))⟩
                        refine ⟨hC, ?_⟩
                        have hS : St B _ (Ass.box 32 g69587 [.int .i64 x70890, .slice A70892 x70891.length C70893] :: Ass.box 90 g69581 [.slice A73268 t73251.length C73269, .int .i64 t73252, .int .i64 t73253] :: Ass.own 37 kS37 A73268 C73269 t73251 :: Ass.box 37 g73237 [.int .i32 (IntKind.i32.wrap x70894), .int .i64 0, .int .i64 0, .slice (some ⟨g73235, 0, none⟩) l73236.length 1, .int .i32 0, .int .i32 0, .int .i32 0, .int .i32 0, .int .i64 0, .int .i64 0, .int .u32 0, .int .i64 (IntKind.i64.wrap (IntKind.u8.wrap (Int.tdiv (l6.getD x70894.toNat 0) 8)))] :: Ass.own 3 (Kd.int .i64) (some ⟨g38389, 0, none⟩) 2 l38390 :: os) (Ro.sl kS37 A70892 C70893 x70891 :: Ro.sl (Kd.int .i32) (some ⟨g73235, 0, none⟩) 1 l73236 :: Ro.sl (Kd.int .i32) (some ⟨g73235, 0, none⟩) 1 l73236 :: Ro.sl (Kd.int .i32) (some ⟨g73235, 0, none⟩) 1 l73236 :: Ro.sl kS37 A70892 C70893 x70891 :: Ro.sl kS37 A69588 C69589 t69586 :: Ro.sl (Kd.int .u8) (some ad73218) C8 l6 :: rs) := hS.re [3] [] rfl (sub_cons 2 rfl (sub_cons 0 rfl sub_self))
                        refine ED.one 5 1 #[true, true, true, true, true, true, false] (by kernel_rfl) (by kernel_rfl) (by kernel_rfl) (EO.callD 20 [.pointer (some ⟨g69587, 0, none⟩), .agg #[.int .i32 (IntKind.i32.wrap x70894), .int .i64 0, .int .i64 0, .slice (some ⟨g73235, 0, none⟩) l73236.length 1, .int .i32 0, .int .i32 0, .int .i32 0, .int .i32 0, .int .i64 0, .int .i64 0, .int .u32 0, .int .i64 (IntKind.i64.wrap (IntKind.u8.wrap (Int.tdiv (l6.getD x70894.toNat 0) 8)))]] _ 83 (by kernel_rfl) (by kernel_rfl) (by kernel_rfl) (confidantref15_Ring_Push.calls hc73263 hS) ?_)
                        rintro v w ⟨A73270, C73271, rfl, hS⟩
                        have hC : Core B [Ass.box 37 g73237 [.int .i32 (IntKind.i32.wrap x70894), .int .i64 0, .int .i64 0, .slice (some ⟨g73235, 0, none⟩) l73236.length 1, .int .i32 0, .int .i32 0, .int .i32 0, .int .i32 0, .int .i64 0, .int .i64 0, .int .u32 0, .int .i64 (IntKind.i64.wrap (IntKind.u8.wrap (Int.tdiv (l6.getD x70894.toNat 0) 8)))], Ass.own 3 (Kd.int .i64) (some ⟨g38389, 0, none⟩) 2 l38390] [Ro.sl kS37 A70892 C70893 x70891, Ro.sl kS37 A69588 C69589 t69586, Ro.sl (Kd.int .u8) (some ad73218) C8 l6] _ := ⟨_, _, hS.re [4, 4] [] rfl (sub_cons 1 rfl (sub_cons 6 rfl (sub_cons 7 rfl sub_self)))⟩
                        refine ⟨hC, ?_⟩
                        refine ED.quick hN hF hC [6] [1, 7, 8, 9, 27, 28, 29, 84] 0 [(1, .slice (some ad73218) l6.length C8), (7, .pointer (some ⟨g69581, 0, none⟩)), (8, .pointer (some ⟨g69587, 0, none⟩)), (9, .int .i64 x70894), (27, .slice (some ⟨g38389, 0, none⟩) l38390.length 2), (28, .int .i64 (l38390.length : Int)), (29, .int .i64 x50074), (84, .bool (!((t73254 == t73260))))] #[true, true, true, true, true, true, true] (by kernel_rfl) (by kernel_rfl) ?_
                        refine ED.done (by kernel_rfl) ?_
                        refine EQ.code ?_
                        refine EW.condQ (b := !((t73254 == t73260))) (o := (.tmp 84)) (x := Cd3.r.r.r.l.r.l.l.r.r.l.l.r.r.r.r.l.l.r.l.l.l.r.l.r.l.r.r.l) (y := Cd3.r.r.r.l.r.l.l.r.r.l.l.r.r.r.r.l.l.r.l.l.l.r.l.r.l.r.r.r) ((t73254 == t73260) = true) (false) (by kernel_rfl) (by kernel_rfl) ⟨fun h => (by rw [h] <;> rfl), fun h => (by rw [Bool.eq_false_iff.2 h] <;> rfl)⟩ (fun h73272 => ?_) (fun h73272 => ?_)
                        · rw [if_pos h73272] at H
                          refine EW.skip (by kernel_rfl) ?_
                          refine EQ.pop ?_
                          refine EQ.to ?_
                          refine EQ.keep [1, 7, 8, 9, 27, 28, 29] [(1, .slice (some ad73218) l6.length C8), (7, .pointer (some ⟨g69581, 0, none⟩)), (8, .pointer (some ⟨g69587, 0, none⟩)), (9, .int .i64 x70894), (27, .slice (some ⟨g38389, 0, none⟩) l38390.length 2), (28, .int .i64 (l38390.length : Int)), (29, .int .i64 x50074)] (by kernel_rfl) ?_
                          exact fun a ha => ⟨t73258, t73259, t73251, t73252, t73253, A73270, C73271, A73268, C73269, ha, (hS.re [4, 3, 3, 3] [4] rfl (sub_cons 0 rfl (sub_cons 1 rfl (sub_cons 1 rfl (sub_cons 6 rfl (sub_cons 7 rfl (sub_tail (sub_tail (sub_tail (sub_tail (sub_tail (sub_tail (sub_tail (sub_tail (sub_self))))))))))))))), H⟩
                        · rw [if_neg h73272] at H
                          refine EW.seq (x := Cd3.r.r.r.l.r.l.l.r.r.l.l.r.r.r.r.l.l.r.l.l.l.r.l.r.l.r.r.l.l) (y := Cd3.r.r.r.l.r.l.l.r.r.l.l.r.r.r.r.l.l.r.l.l.l.r.l.r.l.r.r.l.r) (by kernel_rfl) ?_
                          refine EW.region (id := 23) (ops := Cd3.r.r.r.l.r.l.l.r.r.l.l.r.r.r.r.l.l.r.l.l.l.r.l.r.l.r.r.l.l.ops) (by kernel_rfl) ?_
                          refine EL.quick 1 [4] [(4, .bool (false))] (by kernel_rfl) ?_
                          refine EL.done (by kernel_rfl) ?_
                          refine EQ.code ?_
                          refine EW.ret (by kernel_rfl) ?_
                          refine EQ.ret ?_
                          refine EQ.ret ?_
                          refine EQ.ret ?_
                          refine EQ.ret ?_
                          refine EQ.ret ?_
                          refine EQ.ret ?_
                          refine EQ.ret ?_
                          refine EQ.ret ?_
                          refine EQ.ret ?_
                          refine EQ.ret ?_
                          refine EQ.ret ?_
                          obtain rfl := Option.some.inj H
                          exact EQ.leave (.bool (false)) (by kernel_rfl) ⟨_, rfl, rfl, (hS.re [] [0, 0, 0, 0, 0] rfl (sub_tail (sub_tail (sub_tail (sub_tail (sub_tail (sub_tail (sub_tail (sub_self)))))))))⟩
                      · rw [if_neg h73231] at H
                        obtain ⟨j73277, hj73277, H⟩ := lt_out H
                        refine EW.cut (x := Cd3.r.r.r.l.r.l.l.r.r.l.l.r.r.r.r.l.l.r.l.l.l.r.l.r.r.l) (y := Cd3.r.r.r.l.r.l.l.r.r.l.l.r.r.r.r.l.l.r.l.l.l.r.l.r.r.r) (fun a w => ∃ x73276 : Bool, Sat 147 [(1, .slice (some ad73218) l6.length C8), (7, .pointer (some ⟨g69581, 0, none⟩)), (8, .pointer (some ⟨g69587, 0, none⟩)), (9, .int .i64 x70894), (27, .slice (some ⟨g38389, 0, none⟩) l38390.length 2), (28, .int .i64 (l38390.length : Int)), (29, .int .i64 x50074), (54, .int .u8 (Int.tmod (l6.getD x70894.toNat 0) 8)), (85, .bool (x73276))] a ∧ St B w (Ass.box 90 g69581 [.slice A70886 x70885.length C70887, .int .i64 x70888, .int .i64 x70889] :: Ass.own 37 kS37 A70886 C70887 x70885 :: Ass.box 32 g69587 [.int .i64 x70890, .slice A70892 x70891.length C70893] :: Ass.own 3 (Kd.int .i64) (some ⟨g38389, 0, none⟩) 2 l38390 :: os) (Ro.sl kS37 A70892 C70893 x70891 :: Ro.sl kS37 A69588 C69589 t69586 :: Ro.sl (Kd.int .u8) (some ad73218) C8 l6 :: rs) ∧ j73277 x73276 = some x38374) (by kernel_rfl) ?_ (fun a w hI => ?_)
                        · refine EW.seq (x := Cd3.r.r.r.l.r.l.l.r.r.l.l.r.r.r.r.l.l.r.l.l.l.r.l.r.r.l.l) (y := Cd3.r.r.r.l.r.l.l.r.r.l.l.r.r.r.r.l.l.r.l.l.l.r.l.r.r.l.r) (by kernel_rfl) ?_
                          refine EW.region (id := 24) (ops := Cd3.r.r.r.l.r.l.l.r.r.l.l.r.r.r.r.l.l.r.l.l.l.r.l.r.r.l.l.ops) (by kernel_rfl) ?_
                          refine EL.quick 2 [1, 7, 8, 9, 27, 28, 29, 54, 85] [(1, .slice (some ad73218) l6.length C8), (7, .pointer (some ⟨g69581, 0, none⟩)), (8, .pointer (some ⟨g69587, 0, none⟩)), (9, .int .i64 x70894), (27, .slice (some ⟨g38389, 0, none⟩) l38390.length 2), (28, .int .i64 (l38390.length : Int)), (29, .int .i64 x50074), (54, .int .u8 (Int.tmod (l6.getD x70894.toNat 0) 8)), (85, .bool (decide ((Int.tmod (l6.getD x70894.toNat 0) 8) = 4)))] (by kernel_rfl) ?_
                          refine EL.done (by kernel_rfl) ?_
                          refine EQ.code ?_
                          refine EW.condP (o := (.tmp 85)) (x := Cd3.r.r.r.l.r.l.l.r.r.l.l.r.r.r.r.l.l.r.l.l.l.r.l.r.r.l.r.l) (y := Cd3.r.r.r.l.r.l.l.r.r.l.l.r.r.r.r.l.l.r.l.l.l.r.l.r.r.l.r.r) ((Int.tmod (l6.getD x70894.toNat 0) 8) = 4) (by kernel_rfl) (by kernel_rfl) (fun h73278 => ?_) (fun h73278 => ?_)
                          · rw [if_pos h73278] at H
                            refine EW.keep [1, 7, 8, 9, 27, 28, 29, 54, 85] [(1, .slice (some ad73218) l6.length C8), (7, .pointer (some ⟨g69581, 0, none⟩)), (8, .pointer (some ⟨g69587, 0, none⟩)), (9, .int .i64 x70894), (27, .slice (some ⟨g38389, 0, none⟩) l38390.length 2), (28, .int .i64 (l38390.length : Int)), (29, .int .i64 x50074), (54, .int .u8 (Int.tmod (l6.getD x70894.toNat 0) 8)), (85, .bool (decide ((Int.tmod (l6.getD x70894.toNat 0) 8) = 4)))] (by kernel_rfl) ?_
                            refine EW.as' [(1, .slice (some ad73218) l6.length C8), (7, .pointer (some ⟨g69581, 0, none⟩)), (8, .pointer (some ⟨g69587, 0, none⟩)), (9, .int .i64 x70894), (27, .slice (some ⟨g38389, 0, none⟩) l38390.length 2), (28, .int .i64 (l38390.length : Int)), (29, .int .i64 x50074), (54, .int .u8 (Int.tmod (l6.getD x70894.toNat 0) 8)), (85, .bool (true))] (by simp only [dec_t h73278, Bool.not_true, Bool.not_false]) ?_
                            refine EW.skip (by kernel_rfl) ?_
                            refine EQ.to ?_
                            refine EQ.keep [1, 7, 8, 9, 27, 28, 29, 54, 85] [(1, .slice (some ad73218) l6.length C8), (7, .pointer (some ⟨g69581, 0, none⟩)), (8, .pointer (some ⟨g69587, 0, none⟩)), (9, .int .i64 x70894), (27, .slice (some ⟨g38389, 0, none⟩) l38390.length 2), (28, .int .i64 (l38390.length : Int)), (29, .int .i64 x50074), (54, .int .u8 (Int.tmod (l6.getD x70894.toNat 0) 8)), (85, .bool (true))] (by kernel_rfl) ?_
                            exact fun a ha => ⟨true, ha, (hS.re [3, 3, 3, 3] [] rfl (sub_cons 0 rfl (sub_cons 1 rfl (sub_cons 2 rfl (sub_tail (sub_tail (sub_tail (sub_self)))))))), H⟩
                          · rw [if_neg h73278] at H
                            refine EW.region (id := 25) (ops := Cd3.r.r.r.l.r.l.l.r.r.l.l.r.r.r.r.l.l.r.l.l.l.r.l.r.r.l.r.r.ops) (by kernel_rfl) ?_
                            refine EL.quick 2 [1, 7, 8, 9, 27, 28, 29, 54, 85] [(1, .slice (some ad73218) l6.length C8), (7, .pointer (some ⟨g69581, 0, none⟩)), (8, .pointer (some ⟨g69587, 0, none⟩)), (9, .int .i64 x70894), (27, .slice (some ⟨g38389, 0, none⟩) l38390.length 2), (28, .int .i64 (l38390.length : Int)), (29, .int .i64 x50074), (54, .int .u8 (Int.tmod (l6.getD x70894.toNat 0) 8)), (85, .bool (decide ((Int.tmod (l6.getD x70894.toNat 0) 8) = 5)))] (by kernel_rfl) ?_
                            refine EL.done (by kernel_rfl) ?_
                            refine EQ.to ?_
                            refine EQ.keep [1, 7, 8, 9, 27, 28, 29, 54, 85] [(1, .slice (some ad73218) l6.length C8), (7, .pointer (some ⟨g69581, 0, none⟩)), (8, .pointer (some ⟨g69587, 0, none⟩)), (9, .int .i64 x70894), (27, .slice (some ⟨g38389, 0, none⟩) l38390.length 2), (28, .int .i64 (l38390.length : Int)), (29, .int .i64 x50074), (54, .int .u8 (Int.tmod (l6.getD x70894.toNat 0) 8)), (85, .bool (decide ((Int.tmod (l6.getD x70894.toNat 0) 8) = 5)))] (by kernel_rfl) ?_
                            exact fun a ha => ⟨decide ((Int.tmod (l6.getD x70894.toNat 0) 8) = 5), ha, (hS.re [3, 3, 3, 3] [] rfl (sub_cons 0 rfl (sub_cons 1 rfl (sub_cons 2 rfl (sub_tail (sub_tail (sub_tail (sub_self)))))))), H⟩
                        · obtain ⟨x73276, ha, hS, H⟩ := hI
                          rw [hj73277] at H
                          (try dsimp only at H)
                          refine EW.at ?_ a ha
                          clear ha a
                          refine EW.condP' (o := (.tmp 85)) (x := Cd3.r.r.r.l.r.l.l.r.r.l.l.r.r.r.r.l.l.r.l.l.l.r.l.r.r.r.l) (y := Cd3.r.r.r.l.r.l.l.r.r.l.l.r.r.r.r.l.l.r.l.l.l.r.l.r.r.r.r) (x73276) (by kernel_rfl) (by kernel_rfl) (fun h73279 => ?_) (fun h73279 => ?_)
                          · rw [if_pos h73279] at H
                            refine EW.seq (x := Cd3.r.r.r.l.r.l.l.r.r.l.l.r.r.r.r.l.l.r.l.l.l.r.l.r.r.r.l.l) (y := Cd3.r.r.r.l.r.l.l.r.r.l.l.r.r.r.r.l.l.r.l.l.l.r.l.r.r.r.l.r) (by kernel_rfl) ?_
                            refine EW.region (id := 26) (ops := Cd3.r.r.r.l.r.l.l.r.r.l.l.r.r.r.r.l.l.r.l.l.l.r.l.r.r.r.l.l.ops) (by kernel_rfl) ?_
                            refine EL.quick 1 [1, 7, 8, 9, 27, 28, 29, 89] [(1, .slice (some ad73218) l6.length C8), (7, .pointer (some ⟨g69581, 0, none⟩)), (8, .pointer (some ⟨g69587, 0, none⟩)), (9, .int .i64 x70894), (27, .slice (some ⟨g38389, 0, none⟩) l38390.length 2), (28, .int .i64 (l38390.length : Int)), (29, .int .i64 x50074), (89, .pointer (some ⟨g69581, 0, none⟩))] (by kernel_rfl) ?_
                            obtain ⟨t73288, t73289, t73290, t73291, hc73294, H⟩ := b4_out H
                            refine EL.of (EO.callD 21 [.pointer (some ⟨g69581, 0, none⟩)] _ 90 (by kernel_rfl) (by kernel_rfl) (by kernel_rfl) (ring_Ring_Pop.calls hc73294 hS) ?_)
                            rintro v w ⟨A73292, C73293, rfl, hS⟩
                            refine EL.quick 3 [1, 7, 8, 9, 27, 28, 29, 91, 92] [(1, .slice (some ad73218) l6.length C8), (7, .pointer (some ⟨g69581, 0, none⟩)), (8, .pointer (some ⟨g69587, 0, none⟩)), (9, .int .i64 x70894), (27, .slice (some ⟨g38389, 0, none⟩) l38390.length 2), (28, .int .i64 (l38390.length : Int)), (29, .int .i64 x50074), (91, .agg #[.int .i32 t73290.f0, .int .i64 t73290.f1, .int .i64 t73290.f2, .slice A73292 t73290.f3.length C73293, .int .i32 t73290.f4.f0, .int .i32 t73290.f4.f1, .int .i32 t73290.f4.f2, .int .i32 t73290.f4.f3, .int .i64 t73290.f5, .int .i64 t73290.f6, .int .u32 t73290.f7, .int .i64 t73290.f8]), (92, .bool (t73291))] (by kernel_rfl) ?_
                            refine EL.of (EO.alloc hS 37 (.agg #[.int .i32 0, .int .i64 0, .int .i64 0, .slice none ([] : List Int).length 0, .int .i32 0, .int .i32 0, .int .i32 0, .int .i32 0, .int .i64 0, .int .i64 0, .int .u32 0, .int .i64 0]) [.int .i32 0, .int .i64 0, .int .i64 0, .slice none ([] : List Int).length 0, .int .i32 0, .int .i32 0, .int .i32 0, .int .i32 0, .int .i64 0, .int .i64 0, .int .u32 0, .int .i64 0] 11 (by kernel_rfl) (by kernel_rfl) (by kernel_rfl) (by kernel_rfl) (by first | rfl | kernel_rfl) ?_)
                            intro g73295 w hS
                            refine EL.of (EO.storeBox (os' := Ass.box 37 g73295 [.int .i32 t73290.f0, .int .i64 t73290.f1, .int .i64 t73290.f2, .slice A73292 t73290.f3.length C73293, .int .i32 t73290.f4.f0, .int .i32 t73290.f4.f1, .int .i32 t73290.f4.f2, .int .i32 t73290.f4.f3, .int .i64 t73290.f5, .int .i64 t73290.f6, .int .u32 t73290.f7, .int .i64 t73290.f8] :: Ass.box 90 g69581 [.slice A70886 x70885.length C70887, .int .i64 t73288, .int .i64 t73289] :: Ass.own 37 kS37 A70886 C70887 x70885 :: Ass.box 32 g69587 [.int .i64 x70890, .slice A70892 x70891.length C70893] :: Ass.own 3 (Kd.int .i64) (some ⟨g38389, 0, none⟩) 2 l38390 :: os) hS 0 rfl 37 0 (.agg #[.int .i32 t73290.f0, .int .i64 t73290.f1, .int .i64 t73290.f2, .slice A73292 t73290.f3.length C73293, .int .i32 t73290.f4.f0, .int .i32 t73290.f4.f1, .int .i32 t73290.f4.f2, .int .i32 t73290.f4.f3, .int .i64 t73290.f5, .int .i64 t73290.f6, .int .u32 t73290.f7, .int .i64 t73290.f8]) [.int .i32 t73290.f0, .int .i64 t73290.f1, .int .i64 t73290.f2, .slice A73292 t73290.f3.length C73293, .int .i32 t73290.f4.f0, .int .i32 t73290.f4.f1, .int .i32 t73290.f4.f2, .int .i32 t73290.f4.f3, .int .i64 t73290.f5, .int .i64 t73290.f6, .int .u32 t73290.f7, .int .i64 t73290.f8] (by kernel_rfl) (by kernel_rfl) (by kernel_rfl) (by kernel_rfl) (by kernel_rfl) (by kernel_rfl) rfl rfl ?_)
                            intro w hS
                            refine EL.quick 1 [1, 7, 8, 9, 11, 12, 27, 28, 29] [(1, .slice (some ad73218) l6.length C8), (7, .pointer (some ⟨g69581, 0, none⟩)), (8, .pointer (some ⟨g69587, 0, none⟩)), (9, .int .i64 x70894), (11, .pointer (some ⟨g73295, 0, none⟩)), (12, .bool (t73291)), (27, .slice (some ⟨g38389, 0, none⟩) l38390.length 2), (28, .int .i64 (l38390.length : Int)), (29, .int .i64 x50074)] (by kernel_rfl) ?_
                            refine EL.done (by kernel_rfl) ?_
                            refine EQ.code ?_
                            refine EW.seq (x := Cd3.r.r.r.l.r.l.l.r.r.l.l.r.r.r.r.l.l.r.l.l.l.r.l.r.r.r.l.r.l) (y := Cd3.r.r.r.l.r.l.l.r.r.l.l.r.r.r.r.l.l.r.l.l.l.r.l.r.r.r.l.r.r) (by kernel_rfl) ?_
                            refine EW.region (id := 27) (ops := Cd3.r.r.r.l.r.l.l.r.r.l.l.r.r.r.r.l.l.r.l.l.l.r.l.r.r.r.l.r.l.ops) (by kernel_rfl) ?_
                            refine EL.quick 1 [1, 7, 8, 9, 11, 12, 27, 28, 29, 94] [(1, .slice (some ad73218) l6.length C8), (7, .pointer (some ⟨g69581, 0, none⟩)), (8, .pointer (some ⟨g69587, 0, none⟩)), (9, .int .i64 x70894), (11, .pointer (some ⟨g73295, 0, none⟩)), (12, .bool (t73291)), (27, .slice (some ⟨g38389, 0, none⟩) l38390.length 2), (28, .int .i64 (l38390.length : Int)), (29, .int .i64 x50074), (94, .pointer (some ⟨g69587, 0, none⟩))] (by kernel_rfl) ?_
                            have hS : St B _ (Ass.box 32 g69587 [.int .i64 x70890, .slice A70892 x70891.length C70893] :: Ass.box 37 g73295 [.int .i32 t73290.f0, .int .i64 t73290.f1, .int .i64 t73290.f2, .slice A73292 t73290.f3.length C73293, .int .i32 t73290.f4.f0, .int .i32 t73290.f4.f1, .int .i32 t73290.f4.f2, .int .i32 t73290.f4.f3, .int .i64 t73290.f5, .int .i64 t73290.f6, .int .u32 t73290.f7, .int .i64 t73290.f8] :: Ass.box 90 g69581 [.slice A70886 x70885.length C70887, .int .i64 t73288, .int .i64 t73289] :: Ass.own 37 kS37 A70886 C70887 x70885 :: Ass.own 3 (Kd.int .i64) (some ⟨g38389, 0, none⟩) 2 l38390 :: os) (Ro.sl kS37 A70892 C70893 x70891 :: Ro.sl (Kd.int .i32) A73292 C73293 t73290.f3 :: Ro.sl kS37 A70892 C70893 x70891 :: Ro.sl kS37 A69588 C69589 t69586 :: Ro.sl (Kd.int .u8) (some ad73218) C8 l6 :: rs) := hS.re [3] [] rfl (sub_cons 1 rfl sub_self)
                            obtain ⟨t73306, t73307, t73308, t73309, hc73314, H⟩ := b4_out H
                            refine EL.of (EO.callD 22 [.pointer (some ⟨g69587, 0, none⟩)] _ 95 (by kernel_rfl) (by kernel_rfl) (by kernel_rfl) (confidantref15_Ring_Pop.calls hc73314 hS) ?_)
                            rintro v w ⟨A73310, C73311, A73312, C73313, rfl, hS⟩
                            refine EL.quick 3 [1, 7, 8, 9, 11, 12, 27, 28, 29, 96, 97] [(1, .slice (some ad73218) l6.length C8), (7, .pointer (some ⟨g69581, 0, none⟩)), (8, .pointer (some ⟨g69587, 0, none⟩)), (9, .int .i64 x70894), (11, .pointer (some ⟨g73295, 0, none⟩)), (12, .bool (t73291)), (27, .slice (some ⟨g38389, 0, none⟩) l38390.length 2), (28, .int .i64 (l38390.length : Int)), (29, .int .i64 x50074), (96, .agg #[.int .i32 t73308.f0, .int .i64 t73308.f1, .int .i64 t73308.f2, .slice A73312 t73308.f3.length C73313, .int .i32 t73308.f4.f0, .int .i32 t73308.f4.f1, .int .i32 t73308.f4.f2, .int .i32 t73308.f4.f3, .int .i64 t73308.f5, .int .i64 t73308.f6, .int .u32 t73308.f7, .int .i64 t73308.f8]), (97, .bool (t73309))] (by kernel_rfl) ?_
                            refine EL.of (EO.alloc hS 37 (.agg #[.int .i32 0, .int .i64 0, .int .i64 0, .slice none ([] : List Int).length 0, .int .i32 0, .int .i32 0, .int .i32 0, .int .i32 0, .int .i64 0, .int .i64 0, .int .u32 0, .int .i64 0]) [.int .i32 0, .int .i64 0, .int .i64 0, .slice none ([] : List Int).length 0, .int .i32 0, .int .i32 0, .int .i32 0, .int .i32 0, .int .i64 0, .int .i64 0, .int .u32 0, .int .i64 0] 13 (by kernel_rfl) (by kernel_rfl) (by kernel_rfl) (by kernel_rfl) (by first | rfl | kernel_rfl) ?_)
                            intro g73315 w hS
                            refine EL.of (EO.storeBox (os' := Ass.box 37 g73315 [.int .i32 t73308.f0, .int .i64 t73308.f1, .int .i64 t73308.f2, .slice A73312 t73308.f3.length C73313, .int .i32 t73308.f4.f0, .int .i32 t73308.f4.f1, .int .i32 t73308.f4.f2, .int .i32 t73308.f4.f3, .int .i64 t73308.f5, .int .i64 t73308.f6, .int .u32 t73308.f7, .int .i64 t73308.f8] :: Ass.box 32 g69587 [.int .i64 t73306, .slice A73310 t73307.length C73311] :: Ass.box 37 g73295 [.int .i32 t73290.f0, .int .i64 t73290.f1, .int .i64 t73290.f2, .slice A73292 t73290.f3.length C73293, .int .i32 t73290.f4.f0, .int .i32 t73290.f4.f1, .int .i32 t73290.f4.f2, .int .i32 t73290.f4.f3, .int .i64 t73290.f5, .int .i64 t73290.f6, .int .u32 t73290.f7, .int .i64 t73290.f8] :: Ass.box 90 g69581 [.slice A70886 x70885.length C70887, .int .i64 t73288, .int .i64 t73289] :: Ass.own 37 kS37 A70886 C70887 x70885 :: Ass.own 3 (Kd.int .i64) (some ⟨g38389, 0, none⟩) 2 l38390 :: os) hS 0 rfl 37 0 (.agg #[.int .i32 t73308.f0, .int .i64 t73308.f1, .int .i64 t73308.f2, .slice A73312 t73308.f3.length C73313, .int .i32 t73308.f4.f0, .int .i32 t73308.f4.f1, .int .i32 t73308.f4.f2, .int .i32 t73308.f4.f3, .int .i64 t73308.f5, .int .i64 t73308.f6, .int .u32 t73308.f7, .int .i64 t73308.f8]) [.int .i32 t73308.f0, .int .i64 t73308.f1, .int .i64 t73308.f2, .slice A73312 t73308.f3.length C73313, .int .i32 t73308.f4.f0, .int .i32 t73308.f4.f1, .int .i32 t73308.f4.f2, .int .i32 t73308.f4.f3, .int .i64 t73308.f5, .int .i64 t73308.f6, .int .u32 t73308.f7, .int .i64 t73308.f8] (by kernel_rfl) (by kernel_rfl) (by kernel_rfl) (by kernel_rfl) (by kernel_rfl) (by kernel_rfl) rfl rfl ?_)
                            intro w hS
                            refine EL.quick 1 [1, 7, 8, 9, 11, 12, 13, 14, 27, 28, 29] [(1, .slice (some ad73218) l6.length C8), (7, .pointer (some ⟨g69581, 0, none⟩)), (8, .pointer (some ⟨g69587, 0, none⟩)), (9, .int .i64 x70894), (11, .pointer (some ⟨g73295, 0, none⟩)), (12, .bool (t73291)), (13, .pointer (some ⟨g73315, 0, none⟩)), (14, .bool (t73309)), (27, .slice (some ⟨g38389, 0, none⟩) l38390.length 2), (28, .int .i64 (l38390.length : Int)), (29, .int .i64 x50074)] (by kernel_rfl) ?_
                            refine EL.done (by kernel_rfl) ?_
                            refine EQ.code ?_
                            obtain ⟨j73324, hj73324, H⟩ := lt_out H
                            refine EW.cut (x := Cd3.r.r.r.l.r.l.l.r.r.l.l.r.r.r.r.l.l.r.l.l.l.r.l.r.r.r.l.r.r.l) (y := Cd3.r.r.r.l.r.l.l.r.r.l.l.r.r.r.r.l.l.r.l.l.l.r.l.r.r.r.l.r.r.r) (fun a w => ∃ x73323 : Bool, Sat 147 [(1, .slice (some ad73218) l6.length C8), (7, .pointer (some ⟨g69581, 0, none⟩)), (8, .pointer (some ⟨g69587, 0, none⟩)), (9, .int .i64 x70894), (27, .slice (some ⟨g38389, 0, none⟩) l38390.length 2), (28, .int .i64 (l38390.length : Int)), (29, .int .i64 x50074), (106, .bool (x73323))] a ∧ St B w (Ass.box 37 g73315 [.int .i32 t73308.f0, .int .i64 t73308.f1, .int .i64 t73308.f2, .slice A73312 t73308.f3.length C73313, .int .i32 t73308.f4.f0, .int .i32 t73308.f4.f1, .int .i32 t73308.f4.f2, .int .i32 t73308.f4.f3, .int .i64 t73308.f5, .int .i64 t73308.f6, .int .u32 t73308.f7, .int .i64 t73308.f8] :: Ass.box 32 g69587 [.int .i64 t73306, .slice A73310 t73307.length C73311] :: Ass.box 37 g73295 [.int .i32 t73290.f0, .int .i64 t73290.f1, .int .i64 t73290.f2, .slice A73292 t73290.f3.length C73293, .int .i32 t73290.f4.f0, .int .i32 t73290.f4.f1, .int .i32 t73290.f4.f2, .int .i32 t73290.f4.f3, .int .i64 t73290.f5, .int .i64 t73290.f6, .int .u32 t73290.f7, .int .i64 t73290.f8] :: Ass.box 90 g69581 [.slice A70886 x70885.length C70887, .int .i64 t73288, .int .i64 t73289] :: Ass.own 37 kS37 A70886 C70887 x70885 :: Ass.own 3 (Kd.int .i64) (some ⟨g38389, 0, none⟩) 2 l38390 :: os) (Ro.sl (Kd.int .i32) A73292 C73293 t73290.f3 :: Ro.sl (Kd.int .i32) A73312 C73313 t73308.f3 :: Ro.sl kS37 A73310 C73311 t73307 :: Ro.sl (Kd.int .i32) A73312 C73313 t73308.f3 :: Ro.sl kS37 A70892 C70893 x70891 :: Ro.sl (Kd.int .i32) A73292 C73293 t73290.f3 :: Ro.sl kS37 A70892 C70893 x70891 :: Ro.sl kS37 A69588 C69589 t69586 :: Ro.sl (Kd.int .u8) (some ad73218) C8 l6 :: rs) ∧ j73324 x73323 = some x38374) (by kernel_rfl) ?_ (fun a w hI => ?_)
                            · refine EW.region (id := 28) (ops := Cd3.r.r.r.l.r.l.l.r.r.l.l.r.r.r.r.l.l.r.l.l.l.r.l.r.r.r.l.r.r.l.ops) (by kernel_rfl) ?_
                              refine EL.quick 4 [1, 7, 8, 9, 11, 13, 27, 28, 29, 101] [(1, .slice (some ad73218) l6.length C8), (7, .pointer (some ⟨g69581, 0, none⟩)), (8, .pointer (some ⟨g69587, 0, none⟩)), (9, .int .i64 x70894), (11, .pointer (some ⟨g73295, 0, none⟩)), (13, .pointer (some ⟨g73315, 0, none⟩)), (27, .slice (some ⟨g38389, 0, none⟩) l38390.length 2), (28, .int .i64 (l38390.length : Int)), (29, .int .i64 x50074), (101, .bool (!((t73291 == t73309))))] (by kernel_rfl) ?_
                              by_cases h73325 : (t73291 == t73309) = true
                              · rw [if_pos h73325] at H
                                refine EL.keep [1, 7, 8, 9, 11, 13, 27, 28, 29, 101] [(1, .slice (some ad73218) l6.length C8), (7, .pointer (some ⟨g69581, 0, none⟩)), (8, .pointer (some ⟨g69587, 0, none⟩)), (9, .int .i64 x70894), (11, .pointer (some ⟨g73295, 0, none⟩)), (13, .pointer (some ⟨g73315, 0, none⟩)), (27, .slice (some ⟨g38389, 0, none⟩) l38390.length 2), (28, .int .i64 (l38390.length : Int)), (29, .int .i64 x50074), (101, .bool (!((t73291 == t73309))))] (by kernel_rfl) ?_
                                refine EL.as' [(1, .slice (some ad73218) l6.length C8), (7, .pointer (some ⟨g69581, 0, none⟩)), (8, .pointer (some ⟨g69587, 0, none⟩)), (9, .int .i64 x70894), (11, .pointer (some ⟨g73295, 0, none⟩)), (13, .pointer (some ⟨g73315, 0, none⟩)), (27, .slice (some ⟨g38389, 0, none⟩) l38390.length 2), (28, .int .i64 (l38390.length : Int)), (29, .int .i64 x50074), (101, .bool (false))] (by simp only [h73325, Bool.not_true, Bool.not_false]) ?_
                                refine EL.of (EO.Y (YO.loadBox hS 2 rfl 37 0 12 (.agg #[.int .i32 t73290.f0, .int .i64 t73290.f1, .int .i64 t73290.f2, .slice A73292 t73290.f3.length C73293, .int .i32 t73290.f4.f0, .int .i32 t73290.f4.f1, .int .i32 t73290.f4.f2, .int .i32 t73290.f4.f3, .int .i64 t73290.f5, .int .i64 t73290.f6, .int .u32 t73290.f7, .int .i64 t73290.f8]) 102 (by kernel_rfl) (by kernel_rfl) (by kernel_rfl) (by kernel_rfl)) ?_)
                                refine EL.of (EO.Y (YO.loadBox hS 0 rfl 37 0 12 (.agg #[.int .i32 t73308.f0, .int .i64 t73308.f1, .int .i64 t73308.f2, .slice A73312 t73308.f3.length C73313, .int .i32 t73308.f4.f0, .int .i32 t73308.f4.f1, .int .i32 t73308.f4.f2, .int .i32 t73308.f4.f3, .int .i64 t73308.f5, .int .i64 t73308.f6, .int .u32 t73308.f7, .int .i64 t73308.f8]) 103 (by kernel_rfl) (by kernel_rfl) (by kernel_rfl) (by kernel_rfl)) ?_)
                                have hS : St B _ (Ass.box 37 g73315 [.int .i32 t73308.f0, .int .i64 t73308.f1, .int .i64 t73308.f2, .slice A73312 t73308.f3.length C73313, .int .i32 t73308.f4.f0, .int .i32 t73308.f4.f1, .int .i32 t73308.f4.f2, .int .i32 t73308.f4.f3, .int .i64 t73308.f5, .int .i64 t73308.f6, .int .u32 t73308.f7, .int .i64 t73308.f8] :: Ass.box 32 g69587 [.int .i64 t73306, .slice A73310 t73307.length C73311] :: Ass.box 37 g73295 [.int .i32 t73290.f0, .int .i64 t73290.f1, .int .i64 t73290.f2, .slice A73292 t73290.f3.length C73293, .int .i32 t73290.f4.f0, .int .i32 t73290.f4.f1, .int .i32 t73290.f4.f2, .int .i32 t73290.f4.f3, .int .i64 t73290.f5, .int .i64 t73290.f6, .int .u32 t73290.f7, .int .i64 t73290.f8] :: Ass.box 90 g69581 [.slice A70886 x70885.length C70887, .int .i64 t73288, .int .i64 t73289] :: Ass.own 37 kS37 A70886 C70887 x70885 :: Ass.own 3 (Kd.int .i64) (some ⟨g38389, 0, none⟩) 2 l38390 :: os) (Ro.sl (Kd.int .i32) A73292 C73293 t73290.f3 :: Ro.sl (Kd.int .i32) A73312 C73313 t73308.f3 :: Ro.sl kS37 A73310 C73311 t73307 :: Ro.sl (Kd.int .i32) A73312 C73313 t73308.f3 :: Ro.sl kS37 A70892 C70893 x70891 :: Ro.sl (Kd.int .i32) A73292 C73293 t73290.f3 :: Ro.sl kS37 A70892 C70893 x70891 :: Ro.sl kS37 A69588 C69589 t69586 :: Ro.sl (Kd.int .u8) (some ad73218) C8 l6 :: rs) := hS.re [] [] rfl (sub_cons 3 rfl (sub_cons 1 rfl sub_self))
                                obtain ⟨t73326, hc73327, H⟩ := b1_out H
                                refine EL.of (EO.callD 23 [.agg #[.int .i32 t73290.f0, .int .i64 t73290.f1, .int .i64 t73290.f2, .slice A73292 t73290.f3.length C73293, .int .i32 t73290.f4.f0, .int .i32 t73290.f4.f1, .int .i32 t73290.f4.f2, .int .i32 t73290.f4.f3, .int .i64 t73290.f5, .int .i64 t73290.f6, .int .u32 t73290.f7, .int .i64 t73290.f8], .agg #[.int .i32 t73308.f0, .int .i64 t73308.f1, .int .i64 t73308.f2, .slice A73312 t73308.f3.length C73313, .int .i32 t73308.f4.f0, .int .i32 t73308.f4.f1, .int .i32 t73308.f4.f2, .int .i32 t73308.f4.f3, .int .i64 t73308.f5, .int .i64 t73308.f6, .int .u32 t73308.f7, .int .i64 t73308.f8]] _ 104 (by kernel_rfl) (by kernel_rfl) (by kernel_rfl) (confidantref9_Same.calls hc73327 hS) ?_)
                                rintro v w ⟨rfl, hS⟩
                                refine EL.quick 2 [1, 7, 8, 9, 27, 28, 29, 102, 103, 104, 105, 106] [(1, .slice (some ad73218) l6.length C8), (7, .pointer (some ⟨g69581, 0, none⟩)), (8, .pointer (some ⟨g69587, 0, none⟩)), (9, .int .i64 x70894), (27, .slice (some ⟨g38389, 0, none⟩) l38390.length 2), (28, .int .i64 (l38390.length : Int)), (29, .int .i64 x50074), (102, .agg #[.int .i32 t73290.f0, .int .i64 t73290.f1, .int .i64 t73290.f2, .slice A73292 t73290.f3.length C73293, .int .i32 t73290.f4.f0, .int .i32 t73290.f4.f1, .int .i32 t73290.f4.f2, .int .i32 t73290.f4.f3, .int .i64 t73290.f5, .int .i64 t73290.f6, .int .u32 t73290.f7, .int .i64 t73290.f8]), (103, .agg #[.int .i32 t73308.f0, .int .i64 t73308.f1, .int .i64 t73308.f2, .slice A73312 t73308.f3.length C73313, .int .i32 t73308.f4.f0, .int .i32 t73308.f4.f1, .int .i32 t73308.f4.f2, .int .i32 t73308.f4.f3, .int .i64 t73308.f5, .int .i64 t73308.f6, .int .u32 t73308.f7, .int .i64 t73308.f8]), (104, .bool (t73326)), (105, .bool (!(t73326))), (106, .bool (!(t73326)))] (by kernel_rfl) ?_
                                refine EL.done (by kernel_rfl) ?_
                                refine EQ.to ?_
                                refine EQ.keep [1, 7, 8, 9, 27, 28, 29, 106] [(1, .slice (some ad73218) l6.length C8), (7, .pointer (some ⟨g69581, 0, none⟩)), (8, .pointer (some ⟨g69587, 0, none⟩)), (9, .int .i64 x70894), (27, .slice (some ⟨g38389, 0, none⟩) l38390.length 2), (28, .int .i64 (l38390.length : Int)), (29, .int .i64 x50074), (106, .bool (!(t73326)))] (by kernel_rfl) ?_
                                exact fun a ha => ⟨!(t73326), ha, (hS.re [5, 5, 5, 5, 5, 5] [] rfl (sub_cons 0 rfl (sub_cons 1 rfl (sub_cons 2 rfl (sub_cons 1 rfl (sub_cons 4 rfl (sub_cons 0 rfl (sub_cons 4 rfl (sub_cons 7 rfl (sub_cons 8 rfl (sub_tail (sub_tail (sub_tail (sub_tail (sub_tail (sub_tail (sub_tail (sub_tail (sub_tail (sub_self)))))))))))))))))))), H⟩
                              · rw [if_neg h73325] at H
                                refine EL.keep [1, 7, 8, 9, 11, 13, 27, 28, 29, 101] [(1, .slice (some ad73218) l6.length C8), (7, .pointer (some ⟨g69581, 0, none⟩)), (8, .pointer (some ⟨g69587, 0, none⟩)), (9, .int .i64 x70894), (11, .pointer (some ⟨g73295, 0, none⟩)), (13, .pointer (some ⟨g73315, 0, none⟩)), (27, .slice (some ⟨g38389, 0, none⟩) l38390.length 2), (28, .int .i64 (l38390.length : Int)), (29, .int .i64 x50074), (101, .bool (!((t73291 == t73309))))] (by kernel_rfl) ?_
                                refine EL.as' [(1, .slice (some ad73218) l6.length C8), (7, .pointer (some ⟨g69581, 0, none⟩)), (8, .pointer (some ⟨g69587, 0, none⟩)), (9, .int .i64 x70894), (11, .pointer (some ⟨g73295, 0, none⟩)), (13, .pointer (some ⟨g73315, 0, none⟩)), (27, .slice (some ⟨g38389, 0, none⟩) l38390.length 2), (28, .int .i64 (l38390.length : Int)), (29, .int .i64 x50074), (101, .bool (true))] (by simp only [(Bool.eq_false_iff.2 h73325), Bool.not_true, Bool.not_false]) ?_
                                refine EL.quick 5 [1, 7, 8, 9, 27, 28, 29, 106] [(1, .slice (some ad73218) l6.length C8), (7, .pointer (some ⟨g69581, 0, none⟩)), (8, .pointer (some ⟨g69587, 0, none⟩)), (9, .int .i64 x70894), (27, .slice (some ⟨g38389, 0, none⟩) l38390.length 2), (28, .int .i64 (l38390.length : Int)), (29, .int .i64 x50074), (106, .bool (true))] (by kernel_rfl) ?_
                                refine EL.done (by kernel_rfl) ?_
                                refine EQ.to ?_
                                refine EQ.keep [1, 7, 8, 9, 27, 28, 29, 106] [(1, .slice (some ad73218) l6.length C8), (7, .pointer (some ⟨g69581, 0, none⟩)), (8, .pointer (some ⟨g69587, 0, none⟩)), (9, .int .i64 x70894), (27, .slice (some ⟨g38389, 0, none⟩) l38390.length 2), (28, .int .i64 (l38390.length : Int)), (29, .int .i64 x50074), (106, .bool (true))] (by kernel_rfl) ?_
                                exact fun a ha => ⟨true, ha, (hS.re [5, 5, 5, 5, 5, 5] [] rfl (sub_cons 3 rfl (sub_cons 1 rfl (sub_cons 0 rfl (sub_cons 1 rfl (sub_cons 2 rfl (sub_cons 3 rfl (sub_cons 2 rfl (sub_cons 5 rfl (sub_cons 6 rfl (sub_tail (sub_tail (sub_tail (sub_tail (sub_tail (sub_tail (sub_tail (sub_self)))))))))))))))))), H⟩
                            · obtain ⟨x73323, ha, hS, H⟩ := hI
                              rw [hj73324] at H
                              (try dsimp only at H)
                              refine EW.at ?_ a ha
                              clear ha a
                              refine EW.condP' (o := (.tmp 106)) (x := Cd3.r.r.r.l.r.l.l.r.r.l.l.r.r.r.r.l.l.r.l.l.l.r.l.r.r.r.l.r.r.r.l) (y := Cd3.r.r.r.l.r.l.l.r.r.l.l.r.r.r.r.l.l.r.l.l.l.r.l.r.r.r.l.r.r.r.r) (x73323) (by kernel_rfl) (by kernel_rfl) (fun h73328 => ?_) (fun h73328 => ?_)
                              · rw [if_pos h73328] at H
                                refine EW.seq (x := Cd3.r.r.r.l.r.l.l.r.r.l.l.r.r.r.r.l.l.r.l.l.l.r.l.r.r.r.l.r.r.r.l.l) (y := Cd3.r.r.r.l.r.l.l.r.r.l.l.r.r.r.r.l.l.r.l.l.l.r.l.r.r.r.l.r.r.r.l.r) (by kernel_rfl) ?_
                                refine EW.region (id := 29) (ops := Cd3.r.r.r.l.r.l.l.r.r.l.l.r.r.r.r.l.l.r.l.l.l.r.l.r.r.r.l.r.r.r.l.l.ops) (by kernel_rfl) ?_
                                refine EL.quick 1 [4] [(4, .bool (false))] (by kernel_rfl) ?_
                                refine EL.done (by kernel_rfl) ?_
                                refine EQ.code ?_
                                refine EW.ret (by kernel_rfl) ?_
                                refine EQ.ret ?_
                                refine EQ.ret ?_
                                refine EQ.ret ?_
                                refine EQ.ret ?_
                                refine EQ.ret ?_
                                refine EQ.ret ?_
                                refine EQ.ret ?_
                                refine EQ.ret ?_
                                refine EQ.ret ?_
                                refine EQ.ret ?_
                                refine EQ.ret ?_
                                obtain rfl := Option.some.inj H
                                exact EQ.leave (.bool (false)) (by kernel_rfl) ⟨_, rfl, rfl, (hS.re [] [0, 0, 0, 0, 0, 0] rfl (sub_tail (sub_tail (sub_tail (sub_tail (sub_tail (sub_tail (sub_tail (sub_tail (sub_self))))))))))⟩
                              · rw [if_neg h73328] at H
                                refine EW.skip (by kernel_rfl) ?_
                                refine EQ.pop ?_
                                refine EQ.to ?_
                                refine EQ.keep [1, 7, 8, 9, 27, 28, 29] [(1, .slice (some ad73218) l6.length C8), (7, .pointer (some ⟨g69581, 0, none⟩)), (8, .pointer (some ⟨g69587, 0, none⟩)), (9, .int .i64 x70894), (27, .slice (some ⟨g38389, 0, none⟩) l38390.length 2), (28, .int .i64 (l38390.length : Int)), (29, .int .i64 x50074)] (by kernel_rfl) ?_
                                exact fun a ha => ⟨t73306, t73307, x70885, t73288, t73289, A73310, C73311, A70886, C70887, ha, (hS.re [5, 5, 5, 4] [4, 4] rfl (sub_cons 2 rfl (sub_cons 4 rfl (sub_cons 4 rfl (sub_cons 7 rfl (sub_cons 8 rfl (sub_tail (sub_tail (sub_tail (sub_tail (sub_tail (sub_tail (sub_tail (sub_tail (sub_tail (sub_self)))))))))))))))), H⟩
                          · rw [if_neg h73279] at H
                            refine EW.seq (x := Cd3.r.r.r.l.r.l.l.r.r.l.l.r.r.r.r.l.l.r.l.l.l.r.l.r.r.r.r.l) (y := Cd3.r.r.r.l.r.l.l.r.r.l.l.r.r.r.r.l.l.r.l.l.l.r.l.r.r.r.r.r) (by kernel_rfl) ?_
                            refine EW.region (id := 30) (ops := Cd3.r.r.r.l.r.l.l.r.r.l.l.r.r.r.r.l.l.r.l.l.l.r.l.r.r.r.r.l.ops) (by kernel_rfl) ?_
                            refine EL.quick 2 [1, 7, 8, 9, 27, 28, 29, 107] [(1, .slice (some ad73218) l6.length C8), (7, .pointer (some ⟨g69581, 0, none⟩)), (8, .pointer (some ⟨g69587, 0, none⟩)), (9, .int .i64 x70894), (27, .slice (some ⟨g38389, 0, none⟩) l38390.length 2), (28, .int .i64 (l38390.length : Int)), (29, .int .i64 x50074), (107, .bool (decide ((Int.tmod (l6.getD x70894.toNat 0) 8) = 6)))] (by kernel_rfl) ?_
                            refine EL.done (by kernel_rfl) ?_
                            refine EQ.code ?_
                            refine EW.condP (o := (.tmp 107)) (x := Cd3.r.r.r.l.r.l.l.r.r.l.l.r.r.r.r.l.l.r.l.l.l.r.l.r.r.r.r.r.l) (y := Cd3.r.r.r.l.r.l.l.r.r.l.l.r.r.r.r.l.l.r.l.l.l.r.l.r.r.r.r.r.r) ((Int.tmod (l6.getD x70894.toNat 0) 8) = 6) (by kernel_rfl) (by kernel_rfl) (fun h73329 => ?_) (fun h73329 => ?_)
                            · rw [if_pos h73329] at H
                              refine EW.seq (x := Cd3.r.r.r.l.r.l.l.r.r.l.l.r.r.r.r.l.l.r.l.l.l.r.l.r.r.r.r.r.l.l) (y := Cd3.r.r.r.l.r.l.l.r.r.l.l.r.r.r.r.l.l.r.l.l.l.r.l.r.r.r.r.r.l.r) (by kernel_rfl) ?_
                              refine EW.region (id := 31) (ops := Cd3.r.r.r.l.r.l.l.r.r.l.l.r.r.r.r.l.l.r.l.l.l.r.l.r.r.r.r.r.l.l.ops) (by kernel_rfl) ?_
                              refine EL.quick 1 [1, 7, 8, 9, 27, 28, 29, 110] [(1, .slice (some ad73218) l6.length C8), (7, .pointer (some ⟨g69581, 0, none⟩)), (8, .pointer (some ⟨g69587, 0, none⟩)), (9, .int .i64 x70894), (27, .slice (some ⟨g38389, 0, none⟩) l38390.length 2), (28, .int .i64 (l38390.length : Int)), (29, .int .i64 x50074), (110, .pointer (some ⟨g69581, 0, none⟩))] (by kernel_rfl) ?_
                              obtain ⟨t73338, t73339, t73340, t73341, hc73344, H⟩ := b4_out H
                              refine EL.of (EO.callD 24 [.pointer (some ⟨g69581, 0, none⟩)] _ 111 (by kernel_rfl) (by kernel_rfl) (by kernel_rfl) (ring_Ring_Steal.calls hc73344 hS) ?_)
                              rintro v w ⟨A73342, C73343, rfl, hS⟩
                              refine EL.quick 3 [1, 7, 8, 9, 27, 28, 29, 112, 113] [(1, .slice (some ad73218) l6.length C8), (7, .pointer (some ⟨g69581, 0, none⟩)), (8, .pointer (some ⟨g69587, 0, none⟩)), (9, .int .i64 x70894), (27, .slice (some ⟨g38389, 0, none⟩) l38390.length 2), (28, .int .i64 (l38390.length : Int)), (29, .int .i64 x50074), (112, .agg #[.int .i32 t73340.f0, .int .i64 t73340.f1, .int .i64 t73340.f2, .slice A73342 t73340.f3.length C73343, .int .i32 t73340.f4.f0, .int .i32 t73340.f4.f1, .int .i32 t73340.f4.f2, .int .i32 t73340.f4.f3, .int .i64 t73340.f5, .int .i64 t73340.f6, .int .u32 t73340.f7, .int .i64 t73340.f8]), (113, .bool (t73341))] (by kernel_rfl) ?_
                              refine EL.of (EO.alloc hS 37 (.agg #[.int .i32 0, .int .i64 0, .int .i64 0, .slice none ([] : List Int).length 0, .int .i32 0, .int .i32 0, .int .i32 0, .int .i32 0, .int .i64 0, .int .i64 0, .int .u32 0, .int .i64 0]) [.int .i32 0, .int .i64 0, .int .i64 0, .slice none ([] : List Int).length 0, .int .i32 0, .int .i32 0, .int .i32 0, .int .i32 0, .int .i64 0, .int .i64 0, .int .u32 0, .int .i64 0] 15 (by kernel_rfl) (by kernel_rfl) (by kernel_rfl) (by kernel_rfl) (by first | rfl | kernel_rfl) ?_)
                              intro g73345 w hS
                              refine EL.of (EO.storeBox (os' := Ass.box 37 g73345 [.int .i32 t73340.f0, .int .i64 t73340.f1, .int .i64 t73340.f2, .slice A73342 t73340.f3.length C73343, .int .i32 t73340.f4.f0, .int .i32 t73340.f4.f1, .int .i32 t73340.f4.f2, .int .i32 t73340.f4.f3, .int .i64 t73340.f5, .int .i64 t73340.f6, .int .u32 t73340.f7, .int .i64 t73340.f8] :: Ass.box 90 g69581 [.slice A70886 x70885.length C70887, .int .i64 t73338, .int .i64 t73339] :: Ass.own 37 kS37 A70886 C70887 x70885 :: Ass.box 32 g69587 [.int .i64 x70890, .slice A70892 x70891.length C70893] :: Ass.own 3 (Kd.int .i64) (some ⟨g38389, 0, none⟩) 2 l38390 :: os) hS 0 rfl 37 0 (.agg #[.int .i32 t73340.f0, .int .i64 t73340.f1, .int .i64 t73340.f2, .slice A73342 t73340.f3.length C73343, .int .i32 t73340.f4.f0, .int .i32 t73340.f4.f1, .int .i32 t73340.f4.f2, .int .i32 t73340.f4.f3, .int .i64 t73340.f5, .int .i64 t73340.f6, .int .u32 t73340.f7, .int .i64 t73340.f8]) [.int .i32 t73340.f0, .int .i64 t73340.f1, .int .i64 t73340.f2, .slice A73342 t73340.f3.length C73343, .int .i32 t73340.f4.f0, .int .i32 t73340.f4.f1, .int .i32 t73340.f4.f2, .int .i32 t73340.f4.f3, .int .i64 t73340.f5, .int .i64 t73340.f6, .int .u32 t73340.f7, .int .i64 t73340.f8] (by kernel_rfl) (by kernel_rfl) (by kernel_rfl) (by kernel_rfl) (by kernel_rfl) (by kernel_rfl) rfl rfl ?_)
                              intro w hS
                              refine EL.quick 1 [1, 7, 8, 9, 15, 16, 27, 28, 29] [(1, .slice (some ad73218) l6.length C8), (7, .pointer (some ⟨g69581, 0, none⟩)), (8, .pointer (some ⟨g69587, 0, none⟩)), (9, .int .i64 x70894), (15, .pointer (some ⟨g73345, 0, none⟩)), (16, .bool (t73341)), (27, .slice (some ⟨g38389, 0, none⟩) l38390.length 2), (28, .int .i64 (l38390.length : Int)), (29, .int .i64 x50074)] (by kernel_rfl) ?_
                              refine EL.done (by kernel_rfl) ?_
                              refine EQ.code ?_
                              refine EW.seq (x := Cd3.r.r.r.l.r.l.l.r.r.l.l.r.r.r.r.l.l.r.l.l.l.r.l.r.r.r.r.r.l.r.l) (y := Cd3.r.r.r.l.r.l.l.r.r.l.l.r.r.r.r.l.l.r.l.l.l.r.l.r.r.r.r.r.l.r.r) (by kernel_rfl) ?_
                              refine EW.region (id := 32) (ops := Cd3.r.r.r.l.r.l.l.r.r.l.l.r.r.r.r.l.l.r.l.l.l.r.l.r.r.r.r.r.l.r.l.ops) (by kernel_rfl) ?_
                              refine EL.quick 1 [1, 7, 8, 9, 15, 16, 27, 28, 29, 115] [(1, .slice (some ad73218) l6.length C8), (7, .pointer (some ⟨g69581, 0, none⟩)), (8, .pointer (some ⟨g69587, 0, none⟩)), (9, .int .i64 x70894), (15, .pointer (some ⟨g73345, 0, none⟩)), (16, .bool (t73341)), (27, .slice (some ⟨g38389, 0, none⟩) l38390.length 2), (28, .int .i64 (l38390.length : Int)), (29, .int .i64 x50074), (115, .pointer (some ⟨g69587, 0, none⟩))] (by kernel_rfl) ?_
                              have hS : St B _ (Ass.box 32 g69587 [.int .i64 x70890, .slice A70892 x70891.length C70893] :: Ass.box 37 g73345 [.int .i32 t73340.f0, .int .i64 t73340.f1, .int .i64 t73340.f2, .slice A73342 t73340.f3.length C73343, .int .i32 t73340.f4.f0, .int .i32 t73340.f4.f1, .int .i32 t73340.f4.f2, .int .i32 t73340.f4.f3, .int .i64 t73340.f5, .int .i64 t73340.f6, .int .u32 t73340.f7, .int .i64 t73340.f8] :: Ass.box 90 g69581 [.slice A70886 x70885.length C70887, .int .i64 t73338, .int .i64 t73339] :: Ass.own 37 kS37 A70886 C70887 x70885 :: Ass.own 3 (Kd.int .i64) (some ⟨g38389, 0, none⟩) 2 l38390 :: os) (Ro.sl kS37 A70892 C70893 x70891 :: Ro.sl (Kd.int .i32) A73342 C73343 t73340.f3 :: Ro.sl kS37 A70892 C70893 x70891 :: Ro.sl kS37 A69588 C69589 t69586 :: Ro.sl (Kd.int .u8) (some ad73218) C8 l6 :: rs) := hS.re [3] [] rfl (sub_cons 1 rfl sub_self)
                              obtain ⟨t73356, t73357, t73358, t73359, hc73364, H⟩ := b4_out H
                              refine EL.of (EO.callD 25 [.pointer (some ⟨g69587, 0, none⟩)] _ 116 (by kernel_rfl) (by kernel_rfl) (by kernel_rfl) (confidantref15_Ring_Steal.calls hc73364 hS) ?_)
                              rintro v w ⟨A73360, C73361, A73362, C73363, rfl, hS⟩
                              refine EL.quick 3 [1, 7, 8, 9, 15, 16, 27, 28, 29, 117, 118] [(1, .slice (some ad73218) l6.length C8), (7, .pointer (some ⟨g69581, 0, none⟩)), (8, .pointer (some ⟨g69587, 0, none⟩)), (9, .int .i64 x70894), (15, .pointer (some ⟨g73345, 0, none⟩)), (16, .bool (t73341)), (27, .slice (some ⟨g38389, 0, none⟩) l38390.length 2), (28, .int .i64 (l38390.length : Int)), (29, .int .i64 x50074), (117, .agg #[.int .i32 t73358.f0, .int .i64 t73358.f1, .int .i64 t73358.f2, .slice A73362 t73358.f3.length C73363, .int .i32 t73358.f4.f0, .int .i32 t73358.f4.f1, .int .i32 t73358.f4.f2, .int .i32 t73358.f4.f3, .int .i64 t73358.f5, .int .i64 t73358.f6, .int .u32 t73358.f7, .int .i64 t73358.f8]), (118, .bool (t73359))] (by kernel_rfl) ?_
                              refine EL.of (EO.alloc hS 37 (.agg #[.int .i32 0, .int .i64 0, .int .i64 0, .slice none ([] : List Int).length 0, .int .i32 0, .int .i32 0, .int .i32 0, .int .i32 0, .int .i64 0, .int .i64 0, .int .u32 0, .int .i64 0]) [.int .i32 0, .int .i64 0, .int .i64 0, .slice none ([] : List Int).length 0, .int .i32 0, .int .i32 0, .int .i32 0, .int .i32 0, .int .i64 0, .int .i64 0, .int .u32 0, .int .i64 0] 17 (by kernel_rfl) (by kernel_rfl) (by kernel_rfl) (by kernel_rfl) (by first | rfl | kernel_rfl) ?_)
                              intro g73365 w hS
                              refine EL.of (EO.storeBox (os' := Ass.box 37 g73365 [.int .i32 t73358.f0, .int .i64 t73358.f1, .int .i64 t73358.f2, .slice A73362 t73358.f3.length C73363, .int .i32 t73358.f4.f0, .int .i32 t73358.f4.f1, .int .i32 t73358.f4.f2, .int .i32 t73358.f4.f3, .int .i64 t73358.f5, .int .i64 t73358.f6, .int .u32 t73358.f7, .int .i64 t73358.f8] :: Ass.box 32 g69587 [.int .i64 t73356, .slice A73360 t73357.length C73361] :: Ass.box 37 g73345 [.int .i32 t73340.f0, .int .i64 t73340.f1, .int .i64 t73340.f2, .slice A73342 t73340.f3.length C73343, .int .i32 t73340.f4.f0, .int .i32 t73340.f4.f1, .int .i32 t73340.f4.f2, .int .i32 t73340.f4.f3, .int .i64 t73340.f5, .int .i64 t73340.f6, .int .u32 t73340.f7, .int .i64 t73340.f8] :: Ass.box 90 g69581 [.slice A70886 x70885.length C70887, .int .i64 t73338, .int .i64 t73339] :: Ass.own 37 kS37 A70886 C70887 x70885 :: Ass.own 3 (Kd.int .i64) (some ⟨g38389, 0, none⟩) 2 l38390 :: os) hS 0 rfl 37 0 (.agg #[.int .i32 t73358.f0, .int .i64 t73358.f1, .int .i64 t73358.f2, .slice A73362 t73358.f3.length C73363, .int .i32 t73358.f4.f0, .int .i32 t73358.f4.f1, .int .i32 t73358.f4.f2, .int .i32 t73358.f4.f3, .int .i64 t73358.f5, .int .i64 t73358.f6, .int .u32 t73358.f7, .int .i64 t73358.f8]) [.int .i32 t73358.f0, .int .i64 t73358.f1, .int .i64 t73358.f2, .slice A73362 t73358.f3.length C73363, .int .i32 t73358.f4.f0, .int .i32 t73358.f4.f1, .int .i32 t73358.f4.f2, .int .i32 t73358.f4.f3, .int .i64 t73358.f5, .int .i64 t73358.f6, .int .u32 t73358.f7, .int .i64 t73358.f8] (by kernel_rfl) (by kernel_rfl) (by kernel_rfl) (by kernel_rfl) (by kernel_rfl) (by kernel_rfl) rfl rfl ?_)
                              intro w hS
                              refine EL.quick 1 [1, 7, 8, 9, 15, 16, 17, 18, 27, 28, 29] [(1, .slice (some ad73218) l6.length C8), (7, .pointer (some ⟨g69581, 0, none⟩)), (8, .pointer (some ⟨g69587, 0, none⟩)), (9, .int .i64 x70894), (15, .pointer (some ⟨g73345, 0, none⟩)), (16, .bool (t73341)), (17, .pointer (some ⟨g73365, 0, none⟩)), (18, .bool (t73359)), (27, .slice (some ⟨g38389, 0, none⟩) l38390.length 2), (28, .int .i64 (l38390.length : Int)), (29, .int .i64 x50074)] (by kernel_rfl) ?_
                              refine EL.done (by kernel_rfl) ?_
                              refine EQ.code ?_
                              obtain ⟨j73374, hj73374, H⟩ := lt_out H
                              refine EW.cut (x := Cd3.r.r.r.l.r.l.l.r.r.l.l.r.r.r.r.l.l.r.l.l.l.r.l.r.r.r.r.r.l.r.r.l) (y := Cd3.r.r.r.l.r.l.l.r.r.l.l.r.r.r.r.l.l.r.l.l.l.r.l.r.r.r.r.r.l.r.r.r) (fun a w => ∃ x73373 : Bool, Sat 147 [(1, .slice (some ad73218) l6.length C8), (7, .pointer (some ⟨g69581, 0, none⟩)), (8, .pointer (some ⟨g69587, 0, none⟩)), (9, .int .i64 x70894), (27, .slice (some ⟨g38389, 0, none⟩) l38390.length 2), (28, .int .i64 (l38390.length : Int)), (29, .int .i64 x50074), (127, .bool (x73373))] a ∧ St B w (Ass.box 37 g73365 [.int .i32 t73358.f0, .int .i64 t73358.f1, .int .i64 t73358.f2, .slice A73362 t73358.f3.length C73363, .int .i32 t73358.f4.f0, .int .i32 t73358.f4.f1, .int .i32 t73358.f4.f2, .int .i32 t73358.f4.f3, .int .i64 t73358.f5, .int .i64 t73358.f6, .int .u32 t73358.f7, .int .i64 t73358.f8] :: Ass.box 32 g69587 [.int .i64 t73356, .slice A73360 t73357.length C73361] :: Ass.box 37 g73345 [.int .i32 t73340.f0, .int .i64 t73340.f1, .int .i64 t73340.f2, .slice A73342 t73340.f3.length C73343, .int .i32 t73340.f4.f0, .int .i32 t73340.f4.f1, .int .i32 t73340.f4.f2, .int .i32 t73340.f4.f3, .int .i64 t73340.f5, .int .i64 t73340.f6, .int .u32 t73340.f7, .int .i64 t73340.f8] :: Ass.box 90 g69581 [.slice A70886 x70885.length C70887, .int .i64 t73338, .int .i64 t73339] :: Ass.own 37 kS37 A70886 C70887 x70885 :: Ass.own 3 (Kd.int .i64) (some ⟨g38389, 0, none⟩) 2 l38390 :: os) (Ro.sl (Kd.int .i32) A73342 C73343 t73340.f3 :: Ro.sl (Kd.int .i32) A73362 C73363 t73358.f3 :: Ro.sl kS37 A73360 C73361 t73357 :: Ro.sl (Kd.int .i32) A73362 C73363 t73358.f3 :: Ro.sl kS37 A70892 C70893 x70891 :: Ro.sl (Kd.int .i32) A73342 C73343 t73340.f3 :: Ro.sl kS37 A70892 C70893 x70891 :: Ro.sl kS37 A69588 C69589 t69586 :: Ro.sl (Kd.int .u8) (some ad73218) C8 l6 :: rs) ∧ j73374 x73373 = some x38374) (by kernel_rfl) ?_ (fun a w hI => ?_)
                              · refine EW.region (id := 33) (ops := Cd3.r.r.r.l.r.l.l.r.r.l.l.r.r.r.r.l.l.r.l.l.l.r.l.r.r.r.r.r.l.r.r.l.ops) (by kernel_rfl) ?_
                                refine EL.quick 4 [1, 7, 8, 9, 15, 17, 27, 28, 29, 122] [(1, .slice (some ad73218) l6.length C8), (7, .pointer (some ⟨g69581, 0, none⟩)), (8, .pointer (some ⟨g69587, 0, none⟩)), (9, .int .i64 x70894), (15, .pointer (some ⟨g73345, 0, none⟩)), (17, .pointer (some ⟨g73365, 0, none⟩)), (27, .slice (some ⟨g38389, 0, none⟩) l38390.length 2), (28, .int .i64 (l38390.length : Int)), (29, .int .i64 x50074), (122, .bool (!((t73341 == t73359))))] (by kernel_rfl) ?_
                                by_cases h73375 : (t73341 == t73359) = true
                                · rw [if_pos h73375] at H
                                  refine EL.keep [1, 7, 8, 9, 15, 17, 27, 28, 29, 122] [(1, .slice (some ad73218) l6.length C8), (7, .pointer (some ⟨g69581, 0, none⟩)), (8, .pointer (some ⟨g69587, 0, none⟩)), (9, .int .i64 x70894), (15, .pointer (some ⟨g73345, 0, none⟩)), (17, .pointer (some ⟨g73365, 0, none⟩)), (27, .slice (some ⟨g38389, 0, none⟩) l38390.length 2), (28, .int .i64 (l38390.length : Int)), (29, .int .i64 x50074), (122, .bool (!((t73341 == t73359))))] (by kernel_rfl) ?_
                                  refine EL.as' [(1, .slice (some ad73218) l6.length C8), (7, .pointer (some ⟨g69581, 0, none⟩)), (8, .pointer (some ⟨g69587, 0, none⟩)), (9, .int .i64 x70894), (15, .pointer (some ⟨g73345, 0, none⟩)), (17, .pointer (some ⟨g73365, 0, none⟩)), (27, .slice (some ⟨g38389, 0, none⟩) l38390.length 2), (28, .int .i64 (l38390.length : Int)), (29, .int .i64 x50074), (122, .bool (false))] (by simp only [h73375, Bool.not_true, Bool.not_false]) ?_
                                  refine EL.of (EO.Y (YO.loadBox hS 2 rfl 37 0 12 (.agg #[.int .i32 t73340.f0, .int .i64 t73340.f1, .int .i64 t73340.f2, .slice A73342 t73340.f3.length C73343, .int .i32 t73340.f4.f0, .int .i32 t73340.f4.f1, .int .i32 t73340.f4.f2, .int .i32 t73340.f4.f3, .int .i64 t73340.f5, .int .i64 t73340.f6, .int .u32 t73340.f7, .int .i64 t73340.f8]) 123 (by kernel_rfl) (by kernel_rfl) (by kernel_rfl) (by kernel_rfl)) ?_)
                                  refine EL.of (EO.Y (YO.loadBox hS 0 rfl 37 0 12 (.agg #[.int .i32 t73358.f0, .int .i64 t73358.f1, .int .i64 t73358.f2, .slice A73362 t73358.f3.length C73363, .int .i32 t73358.f4.f0, .int .i32 t73358.f4.f1, .int .i32 t73358.f4.f2, .int .i32 t73358.f4.f3, .int .i64 t73358.f5, .int .i64 t73358.f6, .int .u32 t73358.f7, .int .i64 t73358.f8]) 124 (by kernel_rfl) (by kernel_rfl) (by kernel_rfl) (by kernel_rfl)) ?_)
                                  have hS : St B _ (Ass.box 37 g73365 [.int .i32 t73358.f0, .int .i64 t73358.f1, .int .i64 t73358.f2, .slice A73362 t73358.f3.length C73363, .int .i32 t73358.f4.f0, .int .i32 t73358.f4.f1, .int .i32 t73358.f4.f2, .int .i32 t73358.f4.f3, .int .i64 t73358.f5, .int .i64 t73358.f6, .int .u32 t73358.f7, .int .i64 t73358.f8] :: Ass.box 32 g69587 [.int .i64 t73356, .slice A73360 t73357.length C73361] :: Ass.box 37 g73345 [.int .i32 t73340.f0, .int .i64 t73340.f1, .int .i64 t73340.f2, .slice A73342 t73340.f3.length C73343, .int .i32 t73340.f4.f0, .int .i32 t73340.f4.f1, .int .i32 t73340.f4.f2, .int .i32 t73340.f4.f3, .int .i64 t73340.f5, .int .i64 t73340.f6, .int .u32 t73340.f7, .int .i64 t73340.f8] :: Ass.box 90 g69581 [.slice A70886 x70885.length C70887, .int .i64 t73338, .int .i64 t73339] :: Ass.own 37 kS37 A70886 C70887 x70885 :: Ass.own 3 (Kd.int .i64) (some ⟨g38389, 0, none⟩) 2 l38390 :: os) (Ro.sl (Kd.int .i32) A73342 C73343 t73340.f3 :: Ro.sl (Kd.int .i32) A73362 C73363 t73358.f3 :: Ro.sl kS37 A73360 C73361 t73357 :: Ro.sl (Kd.int .i32) A73362 C73363 t73358.f3 :: Ro.sl kS37 A70892 C70893 x70891 :: Ro.sl (Kd.int .i32) A73342 C73343 t73340.f3 :: Ro.sl kS37 A70892 C70893 x70891 :: Ro.sl kS37 A69588 C69589 t69586 :: Ro.sl (Kd.int .u8) (some ad73218) C8 l6 :: rs) := hS.re [] [] rfl (sub_cons 3 rfl (sub_cons 1 rfl sub_self))
                                  obtain ⟨t73376, hc73377, H⟩ := b1_out H
                                  refine EL.of (EO.callD 23 [.agg #[.int .i32 t73340.f0, .int .i64 t73340.f1, .int .i64 t73340.f2, .slice A73342 t73340.f3.length C73343, .int .i32 t73340.f4.f0, .int .i32 t73340.f4.f1, .int .i32 t73340.f4.f2, .int .i32 t73340.f4.f3, .int .i64 t73340.f5, .int .i64 t73340.f6, .int .u32 t73340.f7, .int .i64 t73340.f8], .agg #[.int .i32 t73358.f0, .int .i64 t73358.f1, .int .i64 t73358.f2, .slice A73362 t73358.f3.length C73363, .int .i32 t73358.f4.f0, .int .i32 t73358.f4.f1, .int .i32 t73358.f4.f2, .int .i32 t73358.f4.f3, .int .i64 t73358.f5, .int .i64 t73358.f6, .int .u32 t73358.f7, .int .i64 t73358.f8]] _ 125 (by kernel_rfl) (by kernel_rfl) (by kernel_rfl) (confidantref9_Same.calls hc73377 hS) ?_)
                                  rintro v w ⟨rfl, hS⟩
                                  refine EL.quick 2 [1, 7, 8, 9, 27, 28, 29, 123, 124, 125, 126, 127] [(1, .slice (some ad73218) l6.length C8), (7, .pointer (some ⟨g69581, 0, none⟩)), (8, .pointer (some ⟨g69587, 0, none⟩)), (9, .int .i64 x70894), (27, .slice (some ⟨g38389, 0, none⟩) l38390.length 2), (28, .int .i64 (l38390.length : Int)), (29, .int .i64 x50074), (123, .agg #[.int .i32 t73340.f0, .int .i64 t73340.f1, .int .i64 t73340.f2, .slice A73342 t73340.f3.length C73343, .int .i32 t73340.f4.f0, .int .i32 t73340.f4.f1, .int .i32 t73340.f4.f2, .int .i32 t73340.f4.f3, .int .i64 t73340.f5, .int .i64 t73340.f6, .int .u32 t73340.f7, .int .i64 t73340.f8]), (124, .agg #[.int .i32 t73358.f0, .int .i64 t73358.f1, .int .i64 t73358.f2, .slice A73362 t73358.f3.length C73363, .int .i32 t73358.f4.f0, .int .i32 t73358.f4.f1, .int .i32 t73358.f4.f2, .int .i32 t73358.f4.f3, .int .i64 t73358.f5, .int .i64 t73358.f6, .int .u32 t73358.f7, .int .i64 t73358.f8]), (125, .bool (t73376)), (126, .bool (!(t73376))), (127, .bool (!(t73376)))] (by kernel_rfl) ?_
                                  refine EL.done (by kernel_rfl) ?_
                                  refine EQ.to ?_
                                  refine EQ.keep [1, 7, 8, 9, 27, 28, 29, 127] [(1, .slice (some ad73218) l6.length C8), (7, .pointer (some ⟨g69581, 0, none⟩)), (8, .pointer (some ⟨g69587, 0, none⟩)), (9, .int .i64 x70894), (27, .slice (some ⟨g38389, 0, none⟩) l38390.length 2), (28, .int .i64 (l38390.length : Int)), (29, .int .i64 x50074), (127, .bool (!(t73376)))] (by kernel_rfl) ?_
                                  exact fun a ha => ⟨!(t73376), ha, (hS.re [5, 5, 5, 5, 5, 5] [] rfl (sub_cons 0 rfl (sub_cons 1 rfl (sub_cons 2 rfl (sub_cons 1 rfl (sub_cons 4 rfl (sub_cons 0 rfl (sub_cons 4 rfl (sub_cons 7 rfl (sub_cons 8 rfl (sub_tail (sub_tail (sub_tail (sub_tail (sub_tail (sub_tail (sub_tail (sub_tail (sub_tail (sub_self)))))))))))))))))))), H⟩
                                · rw [if_neg h73375] at H
                                  refine EL.keep [1, 7, 8, 9, 15, 17, 27, 28, 29, 122] [(1, .slice (some ad73218) l6.length C8), (7, .pointer (some ⟨g69581, 0, none⟩)), (8, .pointer (some ⟨g69587, 0, none⟩)), (9, .int .i64 x70894), (15, .pointer (some ⟨g73345, 0, none⟩)), (17, .pointer (some ⟨g73365, 0, none⟩)), (27, .slice (some ⟨g38389, 0, none⟩) l38390.length 2), (28, .int .i64 (l38390.length : Int)), (29, .int .i64 x50074), (122, .bool (!((t73341 == t73359))))] (by kernel_rfl) ?_
                                  refine EL.as' [(1, .slice (some ad73218) l6.length C8), (7, .pointer (some ⟨g69581, 0, none⟩)), (8, .pointer (some ⟨g69587, 0, none⟩)), (9, .int .i64 x70894), (15, .pointer (some ⟨g73345, 0, none⟩)), (17, .pointer (some ⟨g73365, 0, none⟩)), (27, .slice (some ⟨g38389, 0, none⟩) l38390.length 2), (28, .int .i64 (l38390.length : Int)), (29, .int .i64 x50074), (122, .bool (true))] (by simp only [(Bool.eq_false_iff.2 h73375), Bool.not_true, Bool.not_false]) ?_
                                  refine EL.quick 5 [1, 7, 8, 9, 27, 28, 29, 127] [(1, .slice (some ad73218) l6.length C8), (7, .pointer (some ⟨g69581, 0, none⟩)), (8, .pointer (some ⟨g69587, 0, none⟩)), (9, .int .i64 x70894), (27, .slice (some ⟨g38389, 0, none⟩) l38390.length 2), (28, .int .i64 (l38390.length : Int)), (29, .int .i64 x50074), (127, .bool (true))] (by kernel_rfl) ?_
                                  refine EL.done (by kernel_rfl) ?_
                                  refine EQ.to ?_
                                  refine EQ.keep [1, 7, 8, 9, 27, 28, 29, 127] [(1, .slice (some ad73218) l6.length C8), (7, .pointer (some ⟨g69581, 0, none⟩)), (8, .pointer (some ⟨g69587, 0, none⟩)), (9, .int .i64 x70894), (27, .slice (some ⟨g38389, 0, none⟩) l38390.length 2), (28, .int .i64 (l38390.length : Int)), (29, .int .i64 x50074), (127, .bool (true))] (by kernel_rfl) ?_
                                  exact fun a ha => ⟨true, ha, (hS.re [5, 5, 5, 5, 5, 5] [] rfl (sub_cons 3 rfl (sub_cons 1 rfl (sub_cons 0 rfl (sub_cons 1 rfl (sub_cons 2 rfl (sub_cons 3 rfl (sub_cons 2 rfl (sub_cons 5 rfl (sub_cons 6 rfl (sub_tail (sub_tail (sub_tail (sub_tail (sub_tail (sub_tail (sub_tail (sub_self)))))))))))))))))), H⟩
                              · obtain ⟨x73373, ha, hS, H⟩ := hI
                                rw [hj73374] at H
                                (try dsimp only at H)
                                refine EW.at ?_ a ha
                                clear ha a
                                refine EW.condP' (o := (.tmp 127)) (x := Cd3.r.r.r.l.r.l.l.r.r.l.l.r.r.r.r.l.l.r.l.l.l.r.l.r.r.r.r.r.l.r.r.r.l) (y := Cd3.r.r.r.l.r.l.l.r.r.l.l.r.r.r.r.l.l.r.l.l.l.r.l.r.r.r.r.r.l.r.r.r.r) (x73373) (by kernel_rfl) (by kernel_rfl) (fun h73378 => ?_) (fun h73378 => ?_)
                                · rw [if_pos h73378] at H
                                  refine EW.seq (x := Cd3.r.r.r.l.r.l.l.r.r.l.l.r.r.r.r.l.l.r.l.l.l.r.l.r.r.r.r.r.l.r.r.r.l.l) (y := Cd3.r.r.r.l.r.l.l.r.r.l.l.r.r.r.r.l.l.r.l.l.l.r.l.r.r.r.r.r.l.r.r.r.l.r) (by kernel_rfl) ?_
                                  refine EW.region (id := 34) (ops := Cd3.r.r.r.l.r.l.l.r.r.l.l.r.r.r.r.l.l.r.l.l.l.r.l.r.r.r.r.r.l.r.r.r.l.l.ops) (by kernel_rfl) ?_
                                  refine EL.quick 1 [4] [(4, .bool (false))] (by kernel_rfl) ?_
                                  refine EL.done (by kernel_rfl) ?_
                                  refine EQ.code ?_
                                  refine EW.ret (by kernel_rfl) ?_
                                  refine EQ.ret ?_
                                  refine EQ.ret ?_
                                  refine EQ.ret ?_
                                  refine EQ.ret ?_
                                  refine EQ.ret ?_
                                  refine EQ.ret ?_
                                  refine EQ.ret ?_
                                  refine EQ.ret ?_
                                  refine EQ.ret ?_
                                  refine EQ.ret ?_
                                  refine EQ.ret ?_
                                  obtain rfl := Option.some.inj H
                                  exact EQ.leave (.bool (false)) (by kernel_rfl) ⟨_, rfl, rfl, (hS.re [] [0, 0, 0, 0, 0, 0] rfl (sub_tail (sub_tail (sub_tail (sub_tail (sub_tail (sub_tail (sub_tail (sub_tail (sub_self))))))))))⟩
                                · rw [if_neg h73378] at H
                                  refine EW.skip (by kernel_rfl) ?_
                                  refine EQ.pop ?_
                                  refine EQ.to ?_
                                  refine EQ.keep [1, 7, 8, 9, 27, 28, 29] [(1, .slice (some ad73218) l6.length C8), (7, .pointer (some ⟨g69581, 0, none⟩)), (8, .pointer (some ⟨g69587, 0, none⟩)), (9, .int .i64 x70894), (27, .slice (some ⟨g38389, 0, none⟩) l38390.length 2), (28, .int .i64 (l38390.length : Int)), (29, .int .i64 x50074)] (by kernel_rfl) ?_
                                  exact fun a ha => ⟨t73356, t73357, x70885, t73338, t73339, A73360, C73361, A70886, C70887, ha, (hS.re [5, 5, 5, 4] [4, 4] rfl (sub_cons 2 rfl (sub_cons 4 rfl (sub_cons 4 rfl (sub_cons 7 rfl (sub_cons 8 rfl (sub_tail (sub_tail (sub_tail (sub_tail (sub_tail (sub_tail (sub_tail (sub_tail (sub_tail (sub_self)))))))))))))))), H⟩
                            · rw [if_neg h73329] at H
                              refine EW.seq (x := Cd3.r.r.r.l.r.l.l.r.r.l.l.r.r.r.r.l.l.r.l.l.l.r.l.r.r.r.r.r.r.l) (y := Cd3.r.r.r.l.r.l.l.r.r.l.l.r.r.r.r.l.l.r.l.l.l.r.l.r.r.r.r.r.r.r) (by kernel_rfl) ?_
                              refine EW.region (id := 15) (ops := Cd3.r.r.r.l.r.l.l.r.r.l.l.r.r.r.r.l.l.r.l.l.l.r.l.r.r.r.r.r.r.l.ops) (by kernel_rfl) ?_
                              refine EL.quick 1 [1, 7, 8, 9, 27, 28, 29, 55] [(1, .slice (some ad73218) l6.length C8), (7, .pointer (some ⟨g69581, 0, none⟩)), (8, .pointer (some ⟨g69587, 0, none⟩)), (9, .int .i64 x70894), (27, .slice (some ⟨g38389, 0, none⟩) l38390.length 2), (28, .int .i64 (l38390.length : Int)), (29, .int .i64 x50074), (55, .pointer (some ⟨g69581, 0, none⟩))] (by kernel_rfl) ?_
                              obtain ⟨t73395, t73396, t73397, hc73400, H⟩ := b3_out H
                              refine EL.of (EO.callD 27 [.pointer (some ⟨g69581, 0, none⟩)] _ 56 (by kernel_rfl) (by kernel_rfl) (by kernel_rfl) (ring_Ring_Half.calls hc73400 hS) ?_)
                              rintro v w ⟨A73398, C73399, rfl, hS⟩
                              refine EL.quick 1 [1, 7, 8, 9, 27, 28, 29, 56, 57] [(1, .slice (some ad73218) l6.length C8), (7, .pointer (some ⟨g69581, 0, none⟩)), (8, .pointer (some ⟨g69587, 0, none⟩)), (9, .int .i64 x70894), (27, .slice (some ⟨g38389, 0, none⟩) l38390.length 2), (28, .int .i64 (l38390.length : Int)), (29, .int .i64 x50074), (56, .slice A73398 t73397.length C73399), (57, .pointer (some ⟨g69587, 0, none⟩))] (by kernel_rfl) ?_
                              have hS : St B _ (Ass.box 32 g69587 [.int .i64 x70890, .slice A70892 x70891.length C70893] :: Ass.box 90 g69581 [.slice A70886 x70885.length C70887, .int .i64 t73395, .int .i64 t73396] :: Ass.own 37 kS37 A70886 C70887 x70885 :: Ass.own 37 kS37 A73398 C73399 t73397 :: Ass.own 3 (Kd.int .i64) (some ⟨g38389, 0, none⟩) 2 l38390 :: os) (Ro.sl kS37 A70892 C70893 x70891 :: Ro.sl kS37 A70892 C70893 x70891 :: Ro.sl kS37 A69588 C69589 t69586 :: Ro.sl (Kd.int .u8) (some ad73218) C8 l6 :: rs) := hS.re [3] [] rfl (sub_cons 0 rfl sub_self)
                              obtain ⟨t73401, t73402, t73403, hc73408, H⟩ := b3_out H
                              refine EL.of (EO.callD 28 [.pointer (some ⟨g69587, 0, none⟩)] _ 58 (by kernel_rfl) (by kernel_rfl) (by kernel_rfl) (confidantref15_Ring_Half.calls hc73408 hS) ?_)
                              rintro v w ⟨A73404, C73405, A73406, C73407, rfl, hS⟩
                              have hS := St.fr hS 4 rfl
                              have hS := St.fr hS 1 rfl
                              have hS : St B _ (Ass.box 32 g69587 [.int .i64 t73401, .slice A73404 t73402.length C73405] :: Ass.box 90 g69581 [.slice A70886 x70885.length C70887, .int .i64 t73395, .int .i64 t73396] :: Ass.own 37 kS37 A70886 C70887 x70885 :: Ass.own 3 (Kd.int .i64) (some ⟨g38389, 0, none⟩) 2 l38390 :: os) (Ro.sl kS37 A73398 C73399 t73397 :: Ro.sl kS37 A73406 C73407 t73403 :: Ro.sl kS37 A73406 C73407 t73403 :: Ro.sl kS37 A73398 C73399 t73397 :: Ro.sl kS37 A73404 C73405 t73402 :: Ro.sl kS37 A70892 C70893 x70891 :: Ro.sl kS37 A70892 C70893 x70891 :: Ro.sl kS37 A69588 C69589 t69586 :: Ro.sl (Kd.int .u8) (some ad73218) C8 l6 :: rs) := hS.re [] [] rfl (sub_cons 1 rfl (sub_cons 0 rfl sub_self))
                              obtain ⟨t73409, hc73410, H⟩ := b1_out H
                              refine EL.of (EO.callD 26 [.slice A73398 t73397.length C73399, .slice A73406 t73403.length C73407] _ 59 (by kernel_rfl) (by kernel_rfl) (by kernel_rfl) (confidantref9_SameAll.calls hc73410 hS) ?_)
                              rintro v w ⟨rfl, hS⟩
                              refine EL.quick 1 [1, 7, 8, 9, 27, 28, 29, 60] [(1, .slice (some ad73218) l6.length C8), (7, .pointer (some ⟨g69581, 0, none⟩)), (8, .pointer (some ⟨g69587, 0, none⟩)), (9, .int .i64 x70894), (27, .slice (some ⟨g38389, 0, none⟩) l38390.length 2), (28, .int .i64 (l38390.length : Int)), (29, .int .i64 x50074), (60, .bool (!(t73409)))] (by kernel_rfl) ?_
                              refine EL.done (by kernel_rfl) ?_
                              refine EQ.code ?_
                              refine EW.condQ (b := !(t73409)) (o := (.tmp 60)) (x := Cd3.r.r.r.l.r.l.l.r.r.l.l.r.r.r.r.l.l.r.l.l.l.r.l.r.r.r.r.r.r.r.l) (y := Cd3.r.r.r.l.r.l.l.r.r.l.l.r.r.r.r.l.l.r.l.l.l.r.l.r.r.r.r.r.r.r.r) (t73409 = true) (false) (by kernel_rfl) (by kernel_rfl) ⟨fun h => (by rw [h] <;> rfl), fun h => (by rw [Bool.eq_false_iff.2 h] <;> rfl)⟩ (fun h73411 => ?_) (fun h73411 => ?_)
                              · rw [if_pos h73411] at H
                                refine EW.skip (by kernel_rfl) ?_
                                refine EQ.pop ?_
                                refine EQ.to ?_
                                refine EQ.keep [1, 7, 8, 9, 27, 28, 29] [(1, .slice (some ad73218) l6.length C8), (7, .pointer (some ⟨g69581, 0, none⟩)), (8, .pointer (some ⟨g69587, 0, none⟩)), (9, .int .i64 x70894), (27, .slice (some ⟨g38389, 0, none⟩) l38390.length 2), (28, .int .i64 (l38390.length : Int)), (29, .int .i64 x50074)] (by kernel_rfl) ?_
                                exact fun a ha => ⟨t73401, t73402, x70885, t73395, t73396, A73404, C73405, A70886, C70887, ha, (hS.re [3, 3, 3, 3] [] rfl (sub_cons 4 rfl (sub_cons 5 rfl (sub_cons 5 rfl (sub_cons 7 rfl (sub_cons 8 rfl (sub_tail (sub_tail (sub_tail (sub_tail (sub_tail (sub_tail (sub_tail (sub_tail (sub_tail (sub_self)))))))))))))))), H⟩
                              · rw [if_neg h73411] at H
                                refine EW.seq (x := Cd3.r.r.r.l.r.l.l.r.r.l.l.r.r.r.r.l.l.r.l.l.l.r.l.r.r.r.r.r.r.r.l.l) (y := Cd3.r.r.r.l.r.l.l.r.r.l.l.r.r.r.r.l.l.r.l.l.l.r.l.r.r.r.r.r.r.r.l.r) (by kernel_rfl) ?_
                                refine EW.region (id := 16) (ops := Cd3.r.r.r.l.r.l.l.r.r.l.l.r.r.r.r.l.l.r.l.l.l.r.l.r.r.r.r.r.r.r.l.l.ops) (by kernel_rfl) ?_
                                refine EL.quick 1 [4] [(4, .bool (false))] (by kernel_rfl) ?_
                                refine EL.done (by kernel_rfl) ?_
                                refine EQ.code ?_
                                refine EW.ret (by kernel_rfl) ?_
                                refine EQ.ret ?_
                                refine EQ.ret ?_
                                refine EQ.ret ?_
                                refine EQ.ret ?_
                                refine EQ.ret ?_
                                refine EQ.ret ?_
                                refine EQ.ret ?_
                                refine EQ.ret ?_
                                refine EQ.ret ?_
                                refine EQ.ret ?_
                                refine EQ.ret ?_
                                obtain rfl := Option.some.inj H
                                exact EQ.leave (.bool (false)) (by kernel_rfl) ⟨_, rfl, rfl, (hS.re [] [0, 0, 0, 0] rfl (sub_tail (sub_tail (sub_tail (sub_tail (sub_tail (sub_tail (sub_tail (sub_tail (sub_self))))))))))⟩
                  · obtain ⟨x73205, x73206, x73209, x73212, x73213, A73207, C73208, A73210, C73211, ha, hS, H⟩ := hI
                    rw [hj73214] at H
                    (try dsimp only at H)
                    refine EW.at ?_ a ha
                    clear ha a
                    obtain ⟨j73444, hj73444, H⟩ := lt_out H
                    refine EW.cut (x := Cd3.r.r.r.l.r.l.l.r.r.l.l.r.r.r.r.l.l.r.l.l.r.l) (y := Cd3.r.r.r.l.r.l.l.r.r.l.l.r.r.r.r.l.l.r.l.l.r.r) (fun a w => ∃ x73441 : Int, ∃ x73442 : Int, ∃ x73443 : Bool, Sat 147 [(1, .slice A7 l6.length C8), (7, .pointer (some ⟨g69581, 0, none⟩)), (8, .pointer (some ⟨g69587, 0, none⟩)), (9, .int .i64 x70894), (27, .slice (some ⟨g38389, 0, none⟩) l38390.length 2), (28, .int .i64 (l38390.length : Int)), (29, .int .i64 x50074), (145, .bool (x73443))] a ∧ St B w (Ass.box 90 g69581 [.slice A73210 x73209.length C73211, .int .i64 x73441, .int .i64 x73442] :: Ass.own 37 kS37 A73210 C73211 x73209 :: Ass.box 32 g69587 [.int .i64 x73205, .slice A73207 x73206.length C73208] :: Ass.own 3 (Kd.int .i64) (some ⟨g38389, 0, none⟩) 2 l38390 :: os) (Ro.sl kS37 A73207 C73208 x73206 :: Ro.sl kS37 A73207 C73208 x73206 :: Ro.sl kS37 A70892 C70893 x70891 :: Ro.sl kS37 A70892 C70893 x70891 :: Ro.sl kS37 A69588 C69589 t69586 :: Ro.sl (Kd.int .u8) A7 C8 l6 :: rs) ∧ j73444 x73441 x73442 x73443 = some x38374) (by kernel_rfl) ?_ (fun a w hI => ?_)
                    · obtain ⟨t73445, t73446, t73447, hc73448, H⟩ := b3_out H
                      by_cases h73449 : t73447 = (x73206.length : Int)
                      · rw [if_pos h73449] at H
                        obtain ⟨t73450, t73451, t73452, hc73455, H⟩ := b3_out H
                        obtain ⟨t73456, hc73457, H⟩ := b1_out H
                        have hS := hS.drew
                        refine EW.draw (B := B) (id := 35) (ops := Cd3.r.r.r.l.r.l.l.r.r.l.l.r.r.r.r.l.l.r.l.l.r.l.ops) [Ass.box 32 g69587 [.int .i64 x73205, .slice A73207 x73206.length C73208], Ass.own 37 kS37 A73210 C73211 x73209, Ass.own 3 (Kd.int .i64) (some ⟨g38389, 0, none⟩) 2 l38390] [Ro.sl kS37 A73207 C73208 x73206, Ro.sl kS37 A70892 C70893 x70891, Ro.sl kS37 A70892 C70893 x70891, Ro.sl kS37 A69588 C69589 t69586, Ro.sl (Kd.int .u8) A7 C8 l6] (by kernel_rfl) (by kernel_rfl) ?_
                        have hN : Region.noSelect Cd3.r.r.r.l.r.l.l.r.r.l.l.r.r.r.r.l.l.r.l.l.r.l.ops = true := (by kernel_rfl)
                        have hF : freeAll Cd3.r.r.r.l.r.l.l.r.r.l.l.r.r.r.r.l.l.r.l.l.r.l.ops = true := (by kernel_rfl)
                        have hC : Core B [Ass.box 32 g69587 [.int .i64 x73205, .slice A73207 x73206.length C73208], Ass.own 37 kS37 A73210 C73211 x73209, Ass.own 3 (Kd.int .i64) (some ⟨g38389, 0, none⟩) 2 l38390] [Ro.sl kS37 A73207 C73208 x73206, Ro.sl kS37 A70892 C70893 x70891, Ro.sl kS37 A70892 C70893 x70891, Ro.sl kS37 A69588 C69589 t69586, Ro.sl (Kd.int .u8) A7 C8 l6] _ := ⟨_, _, hS.re [3, 3, 2] [] rfl sub_self⟩
                        refine ED.quick hN hF hC [0, 2, 3, 4] [1, 7, 8, 9, 27, 28, 29, 128, 132] 14 [(1, .slice A7 l6.length C8), (7, .pointer (some ⟨g69581, 0, none⟩)), (8, .pointer (some ⟨g69587, 0, none⟩)), (9, .int .i64 x70894), (27, .slice (some ⟨g38389, 0, none⟩) l38390.length 2), (28, .int .i64 (l38390.length : Int)), (29, .int .i64 x50074), (128, .pointer (some ⟨g69581, 0, none⟩)), (132, .pointer (some ⟨g69587, 1, none⟩))] #[true, false, true, true, true, false, false, false, false, false, false, false, false, false, false, false, false, false] (by kernel_rfl) (by kernel_rfl) ?_
                        refine ED.Y hN hF hC 5 13 #[true, false, true, true, true, true, false, false, false, false, false, false, false, false, false, false, false, false] (by kernel_rfl) (by kernel_rfl) rfl (fun _ _ _ hS => YO.loadBox hS 0 rfl 30 1 1 (.slice A73207 x73206.length C73208) 133 (by kernel_rfl) (by kernel_rfl) (by kernel_rfl) (by kernel_rfl)) ?_
                        refine ED.quick hN hF hC [6] [1, 7, 8, 9, 27, 28, 29, 128, 134] 12 [(1, .slice A7 l6.length C8), (7, .pointer (some ⟨g69581, 0, none⟩)), (8, .pointer (some ⟨g69587, 0, none⟩)), (9, .int .i64 x70894), (27, .slice (some ⟨g38389, 0, none⟩) l38390.length 2), (28, .int .i64 (l38390.length : Int)), (29, .int .i64 x50074), (128, .pointer (some ⟨g69581, 0, none⟩)), (134, .int .i64 (x73206.length : Int))] #[true, false, true, true, true, true, true, false, false, false, false, false, false, false, false, false, false, false] (by kernel_rfl) (by kernel_rfl) ?_
                        have hS : St B _ (Ass.box 90 g69581 [.slice A73210 x73209.length C73211, .int .i64 x73212, .int .i64 x73213] :: Ass.own 37 kS37 A73210 C73211 x73209 :: Ass.box 32 g69587 [.int .i64 x73205, .slice A73207 x73206.length C73208] :: Ass.own 3 (Kd.int .i64) (some ⟨g38389, 0, none⟩) 2 l38390 :: os) (Ro.sl kS37 A73207 C73208 x73206 :: Ro.sl kS37 A70892 C70893 x70891 :: Ro.sl kS37 A70892 C70893 x70891 :: Ro.sl kS37 A69588 C69589 t69586 :: Ro.sl (Kd.int .u8) A7 C8 l6 :: rs) := hS.re [2, 2] [] rfl sub_self
                        refine ED.one 1 11 #[true, true, true, true, true, true, true, false, false, false, false, false, false, false, false, false, false, false] (by kernel_rfl) (by kernel_rfl) (by kernel_rfl) (EO.callD 29 [.pointer (some ⟨g69581, 0, none⟩)] _ 129 (by kernel_rfl) (by kernel_rfl) (by kernel_rfl) (ring_Ring_Len.calls hc73448 hS) ?_)
                        rintro v w ⟨rfl, hS⟩
                        have hC : Core B [Ass.box 32 g69587 [.int .i64 x73205, .slice A73207 x73206.length C73208], Ass.own 37 kS37 A73210 C73211 x73209, Ass.own 3 (Kd.int .i64) (some ⟨g38389, 0, none⟩) 2 l38390] [Ro.sl kS37 A73207 C73208 x73206, Ro.sl kS37 A70892 C70893 x70891, Ro.sl kS37 A70892 C70893 x70891, Ro.sl kS37 A69588 C69589 t69586, Ro.sl (Kd.int .u8) A7 C8 l6] _ := ⟨_, _, hS.re [3, 2, 3] [] rfl sub_self⟩
                        refine ⟨hC, ?_⟩
                        refine ED.quick hN hF hC [7, 8] [1, 7, 8, 9, 27, 28, 29, 136] 9 [(1, .slice A7 l6.length C8), (7, .pointer (some ⟨g69581, 0, none⟩)), (8, .pointer (some ⟨g69587, 0, none⟩)), (9, .int .i64 x70894), (27, .slice (some ⟨g38389, 0, none⟩) l38390.length 2), (28, .int .i64 (l38390.length : Int)), (29, .int .i64 x50074), (136, .bool (!(decide (t73447 = (x73206.length : Int)))))] #[true, true, true, true, true, true, true, true, true, false, false, false, false, false, false, false, false, false] (by kernel_rfl) (by kernel_rfl) ?_
                        refine ED.keep [1, 7, 8, 9, 27, 28, 29, 136] [(1, .slice A7 l6.length C8), (7, .pointer (some ⟨g69581, 0, none⟩)), (8, .pointer (some ⟨g69587, 0, none⟩)), (9, .int .i64 x70894), (27, .slice (some ⟨g38389, 0, none⟩) l38390.length 2), (28, .int .i64 (l38390.length : Int)), (29, .int .i64 x50074), (136, .bool (!(decide (t73447 = (x73206.length : Int)))))] (by kernel_rfl) ?_
                        refine ED.as' [(1, .slice A7 l6.length C8), (7, .pointer (some ⟨g69581, 0, none⟩)), (8, .pointer (some ⟨g69587, 0, none⟩)), (9, .int .i64 x70894), (27, .slice (some ⟨g38389, 0, none⟩) l38390.length 2), (28, .int .i64 (l38390.length : Int)), (29, .int .i64 x50074), (136, .bool (false))] (by simp only [dec_t h73449, Bool.not_true, Bool.not_false]) ?_
                        refine ED.quick hN hF hC [9, 11, 12, 13] [1, 7, 8, 9, 27, 28, 29, 136, 137, 139, 140, 141] 5 [(1, .slice A7 l6.length C8), (7, .pointer (some ⟨g69581, 0, none⟩)), (8, .pointer (some ⟨g69587, 0, none⟩)), (9, .int .i64 x70894), (27, .slice (some ⟨g38389, 0, none⟩) l38390.length 2), (28, .int .i64 (l38390.length : Int)), (29, .int .i64 x50074), (136, .bool (false)), (137, .pointer (some ⟨g69581, 0, none⟩)), (139, .pointer (some ⟨g69587, 0, none⟩)), (140, .pointer (some ⟨g69587, 0, none⟩)), (141, .pointer (some ⟨g69587, 1, none⟩))] #[true, true, true, true, true, true, true, true, true, true, false, true, true, true, false, false, false, false] (by kernel_rfl) (by kernel_rfl) ?_
                        refine ED.Y hN hF hC 14 4 #[true, true, true, true, true, true, true, true, true, true, false, true, true, true, true, false, false, false] (by kernel_rfl) (by kernel_rfl) rfl (fun _ _ _ hS => YO.loadBox hS 0 rfl 30 1 1 (.slice A73207 x73206.length C73208) 142 (by kernel_rfl) (by kernel_rfl) (by kernel_rfl) (by kernel_rfl)) ?_
                        refine ED.one 10 3 #[true, true, true, true, true, true, true, true, true, true, true, true, true, true, true, false, false, false] (by kernel_rfl) (by kernel_rfl) (by kernel_rfl) (EO.callD 30 [.pointer (some ⟨g69581, 0, none⟩)] _ 138 (by kernel_rfl) (by kernel_rfl) (by kernel_rfl) (ring_Ring_All.calls hc73455 hS) ?_)
                        rintro v w ⟨A73460, C73461, rfl, hS⟩
                        have hC : Core B [Ass.box 32 g69587 [.int .i64 x73205, .slice A73207 x73206.length C73208], Ass.own 37 kS37 A73210 C73211 x73209, Ass.own 3 (Kd.int .i64) (some ⟨g38389, 0, none⟩) 2 l38390] [Ro.sl kS37 A73207 C73208 x73206, Ro.sl kS37 A70892 C70893 x70891, Ro.sl kS37 A70892 C70893 x70891, Ro.sl kS37 A69588 C69589 t69586, Ro.sl (Kd.int .u8) A7 C8 l6] _ := ⟨_, _, hS.re [4, 2, 4] [] rfl sub_self⟩
                        refine ⟨hC, ?_⟩
                        have hS := St.fr hS 2 rfl
                        have hS : St B _ (Ass.box 90 g69581 [.slice A73210 x73209.length C73211, .int .i64 t73450, .int .i64 t73451] :: Ass.own 37 kS37 A73210 C73211 x73209 :: Ass.box 32 g69587 [.int .i64 x73205, .slice A73207 x73206.length C73208] :: Ass.own 3 (Kd.int .i64) (some ⟨g38389, 0, none⟩) 2 l38390 :: os) (Ro.sl kS37 A73460 C73461 t73452 :: Ro.sl kS37 A73207 C73208 x73206 :: Ro.sl kS37 A73460 C73461 t73452 :: Ro.sl kS37 A73207 C73208 x73206 :: Ro.sl kS37 A70892 C70893 x70891 :: Ro.sl kS37 A70892 C70893 x70891 :: Ro.sl kS37 A69588 C69589 t69586 :: Ro.sl (Kd.int .u8) A7 C8 l6 :: rs) := hS.re [] [] rfl (sub_cons 0 rfl (sub_cons 1 rfl sub_self))
                        refine ED.one 15 2 #[true, true, true, true, true, true, true, true, true, true, true, true, true, true, true, true, false, false] (by kernel_rfl) (by kernel_rfl) (by kernel_rfl) (EO.callD 26 [.slice A73460 t73452.length C73461, .slice A73207 x73206.length C73208] _ 143 (by kernel_rfl) (by kernel_rfl) (by kernel_rfl) (confidantref9_SameAll.calls hc73457 hS) ?_)
                        rintro v w ⟨rfl, hS⟩
                        have hC : Core B [Ass.box 32 g69587 [.int .i64 x73205, .slice A73207 x73206.length C73208], Ass.own 37 kS37 A73210 C73211 x73209, Ass.own 3 (Kd.int .i64) (some ⟨g38389, 0, none⟩) 2 l38390] [Ro.sl kS37 A73207 C73208 x73206, Ro.sl kS37 A70892 C70893 x70891, Ro.sl kS37 A70892 C70893 x70891, Ro.sl kS37 A69588 C69589 t69586, Ro.sl (Kd.int .u8) A7 C8 l6] _ := ⟨_, _, hS.re [3, 2, 3] [] rfl (sub_cons 1 rfl (sub_cons 4 rfl (sub_cons 4 rfl (sub_cons 6 rfl (sub_cons 7 rfl sub_self)))))⟩
                        refine ⟨hC, ?_⟩
                        refine ED.quick hN hF hC [16, 17] [1, 7, 8, 9, 27, 28, 29, 137, 138, 139, 140, 141, 142, 143, 144, 145] 0 [(1, .slice A7 l6.length C8), (7, .pointer (some ⟨g69581, 0, none⟩)), (8, .pointer (some ⟨g69587, 0, none⟩)), (9, .int .i64 x70894), (27, .slice (some ⟨g38389, 0, none⟩) l38390.length 2), (28, .int .i64 (l38390.length : Int)), (29, .int .i64 x50074), (137, .pointer (some ⟨g69581, 0, none⟩)), (138, .slice A73460 t73452.length C73461), (139, .pointer (some ⟨g69587, 0, none⟩)), (140, .pointer (some ⟨g69587, 0, none⟩)), (141, .pointer (some ⟨g69587, 1, none⟩)), (142, .slice A73207 x73206.length C73208), (143, .bool (t73456)), (144, .bool (!(t73456))), (145, .bool (!(t73456)))] #[true, true, true, true, true, true, true, true, true, true, true, true, true, true, true, true, true, true] (by kernel_rfl) (by kernel_rfl) ?_
                        refine ED.done (by kernel_rfl) ?_
                        refine EQ.to ?_
                        refine EQ.keep [1, 7, 8, 9, 27, 28, 29, 145] [(1, .slice A7 l6.length C8), (7, .pointer (some ⟨g69581, 0, none⟩)), (8, .pointer (some ⟨g69587, 0, none⟩)), (9, .int .i64 x70894), (27, .slice (some ⟨g38389, 0, none⟩) l38390.length 2), (28, .int .i64 (l38390.length : Int)), (29, .int .i64 x50074), (145, .bool (!(t73456)))] (by kernel_rfl) ?_
                        exact fun a ha => ⟨t73450, t73451, !(t73456), ha, (hS.re [3, 3, 3, 3] [] rfl (sub_cons 1 rfl (sub_cons 1 rfl (sub_cons 4 rfl (sub_cons 4 rfl (sub_cons 6 rfl (sub_cons 7 rfl (sub_tail (sub_tail (sub_tail (sub_tail (sub_tail (sub_tail (sub_tail (sub_tail (sub_self)))))))))))))))), H⟩
                      · rw [if_neg h73449] at H
                        have hS := hS.drew
                        refine EW.draw (B := B) (id := 35) (ops := Cd3.r.r.r.l.r.l.l.r.r.l.l.r.r.r.r.l.l.r.l.l.r.l.ops) [Ass.box 32 g69587 [.int .i64 x73205, .slice A73207 x73206.length C73208], Ass.own 37 kS37 A73210 C73211 x73209, Ass.own 3 (Kd.int .i64) (some ⟨g38389, 0, none⟩) 2 l38390] [Ro.sl kS37 A73207 C73208 x73206, Ro.sl kS37 A70892 C70893 x70891, Ro.sl kS37 A70892 C70893 x70891, Ro.sl kS37 A69588 C69589 t69586, Ro.sl (Kd.int .u8) A7 C8 l6] (by kernel_rfl) (by kernel_rfl) ?_
                        have hN : Region.noSelect Cd3.r.r.r.l.r.l.l.r.r.l.l.r.r.r.r.l.l.r.l.l.r.l.ops = true := (by kernel_rfl)
                        have hF : freeAll Cd3.r.r.r.l.r.l.l.r.r.l.l.r.r.r.r.l.l.r.l.l.r.l.ops = true := (by kernel_rfl)
                        have hC : Core B [Ass.box 32 g69587 [.int .i64 x73205, .slice A73207 x73206.length C73208], Ass.own 37 kS37 A73210 C73211 x73209, Ass.own 3 (Kd.int .i64) (some ⟨g38389, 0, none⟩) 2 l38390] [Ro.sl kS37 A73207 C73208 x73206, Ro.sl kS37 A70892 C70893 x70891, Ro.sl kS37 A70892 C70893 x70891, Ro.sl kS37 A69588 C69589 t69586, Ro.sl (Kd.int .u8) A7 C8 l6] _ := ⟨_, _, hS.re [3, 3, 2] [] rfl sub_self⟩
                        refine ED.quick hN hF hC [0, 2, 3, 4] [1, 7, 8, 9, 27, 28, 29, 128, 132] 14 [(1, .slice A7 l6.length C8), (7, .pointer (some ⟨g69581, 0, none⟩)), (8, .pointer (some ⟨g69587, 0, none⟩)), (9, .int .i64 x70894), (27, .slice (some ⟨g38389, 0, none⟩) l38390.length 2), (28, .int .i64 (l38390.length : Int)), (29, .int .i64 x50074), (128, .pointer (some ⟨g69581, 0, none⟩)), (132, .pointer (some ⟨g69587, 1, none⟩))] #[true, false, true, true, true, false, false, false, false, false, false, false, false, false, false, false, false, false] (by kernel_rfl) (by kernel_rfl) ?_
                        refine ED.Y hN hF hC 5 13 #[true, false, true, true, true, true, false, false, false, false, false, false, false, false, false, false, false, false] (by kernel_rfl) (by kernel_rfl) rfl (fun _ _ _ hS => YO.loadBox hS 0 rfl 30 1 1 (.slice A73207 x73206.length C73208) 133 (by kernel_rfl) (by kernel_rfl) (by kernel_rfl) (by kernel_rfl)) ?_
                        refine ED.quick hN hF hC [6] [1, 7, 8, 9, 27, 28, 29, 128, 134] 12 [(1, .slice A7 l6.length C8), (7, .pointer (some ⟨g69581, 0, none⟩)), (8, .pointer (some ⟨g69587, 0, none⟩)), (9, .int .i64 x70894), (27, .slice (some ⟨g38389, 0, none⟩) l38390.length 2), (28, .int .i64 (l38390.length : Int)), (29, .int .i64 x50074), (128, .pointer (some ⟨g69581, 0, none⟩)), (134, .int .i64 (x73206.length : Int))] #[true, false, true, true, true, true, true, false, false, false, false, false, false, false, false, false, false, false] (by kernel_rfl) (by kernel_rfl) ?_
                        have hS : St B _ (Ass.box 90 g69581 [.slice A73210 x73209.length C73211, .int .i64 x73212, .int .i64 x73213] :: Ass.own 37 kS37 A73210 C73211 x73209 :: Ass.box 32 g69587 [.int .i64 x73205, .slice A73207 x73206.length C73208] :: Ass.own 3 (Kd.int .i64) (some ⟨g38389, 0, none⟩) 2 l38390 :: os) (Ro.sl kS37 A73207 C73208 x73206 :: Ro.sl kS37 A70892 C70893 x70891 :: Ro.sl kS37 A70892 C70893 x70891 :: Ro.sl kS37 A69588 C69589 t69586 :: Ro.sl (Kd.int .u8) A7 C8 l6 :: rs) := hS.re [2, 2] [] rfl sub_self
                        refine ED.one 1 11 #[true, true, true, true, true, true, true, false, false, false, false, false, false, false, false, false, false, false] (by kernel_rfl) (by kernel_rfl) (by kernel_rfl) (EO.callD 29 [.pointer (some ⟨g69581, 0, none⟩)] _ 129 (by kernel_rfl) (by kernel_rfl) (by kernel_rfl) (ring_Ring_Len.calls hc73448 hS) ?_)
                        rintro v w ⟨rfl, hS⟩
                        have hC : Core B [Ass.box 32 g69587 [.int .i64 x73205, .slice A73207 x73206.length C73208], Ass.own 37 kS37 A73210 C73211 x73209, Ass.own 3 (Kd.int .i64) (some ⟨g38389, 0, none⟩) 2 l38390] [Ro.sl kS37 A73207 C73208 x73206, Ro.sl kS37 A70892 C70893 x70891, Ro.sl kS37 A70892 C70893 x70891, Ro.sl kS37 A69588 C69589 t69586, Ro.sl (Kd.int .u8) A7 C8 l6] _ := ⟨_, _, hS.re [3, 2, 3] [] rfl sub_self⟩
                        refine ⟨hC, ?_⟩
                        refine ED.quick hN hF hC [7, 8] [1, 7, 8, 9, 27, 28, 29, 136] 9 [(1, .slice A7 l6.length C8), (7, .pointer (some ⟨g69581, 0, none⟩)), (8, .pointer (some ⟨g69587, 0, none⟩)), (9, .int .i64 x70894), (27, .slice (some ⟨g38389, 0, none⟩) l38390.length 2), (28, .int .i64 (l38390.length : Int)), (29, .int .i64 x50074), (136, .bool (!(decide (t73447 = (x73206.length : Int)))))] #[true, true, true, true, true, true, true, true, true, false, false, false, false, false, false, false, false, false] (by kernel_rfl) (by kernel_rfl) ?_
                        refine ED.keep [1, 7, 8, 9, 27, 28, 29, 136] [(1, .slice A7 l6.length C8), (7, .pointer (some ⟨g69581, 0, none⟩)), (8, .pointer (some ⟨g69587, 0, none⟩)), (9, .int .i64 x70894), (27, .slice (some ⟨g38389, 0, none⟩) l38390.length 2), (28, .int .i64 (l38390.length : Int)), (29, .int .i64 x50074), (136, .bool (!(decide (t73447 = (x73206.length : Int)))))] (by kernel_rfl) ?_
                        refine ED.as' [(1, .slice A7 l6.length C8), (7, .pointer (some ⟨g69581, 0, none⟩)), (8, .pointer (some ⟨g69587, 0, none⟩)), (9, .int .i64 x70894), (27, .slice (some ⟨g38389, 0, none⟩) l38390.length 2), (28, .int .i64 (l38390.length : Int)), (29, .int .i64 x50074), (136, .bool (true))] (by simp only [dec_f h73449, Bool.not_true, Bool.not_false]) ?_
                        refine ED.quick hN hF hC [9, 10, 11, 12, 13, 14, 15, 16, 17] [1, 7, 8, 9, 27, 28, 29, 137, 138, 139, 140, 141, 142, 143, 144, 145] 0 [(1, .slice A7 l6.length C8), (7, .pointer (some ⟨g69581, 0, none⟩)), (8, .pointer (some ⟨g69587, 0, none⟩)), (9, .int .i64 x70894), (27, .slice (some ⟨g38389, 0, none⟩) l38390.length 2), (28, .int .i64 (l38390.length : Int)), (29, .int .i64 x50074), (137, undef), (138, undef), (139, undef), (140, undef), (141, undef), (142, undef), (143, undef), (144, undef), (145, .bool (true))] #[true, true, true, true, true, true, true, true, true, true, true, true, true, true, true, true, true, true] (by kernel_rfl) (by kernel_rfl) ?_
                        refine ED.done (by kernel_rfl) ?_
                        refine EQ.to ?_
                        refine EQ.keep [1, 7, 8, 9, 27, 28, 29, 145] [(1, .slice A7 l6.length C8), (7, .pointer (some ⟨g69581, 0, none⟩)), (8, .pointer (some ⟨g69587, 0, none⟩)), (9, .int .i64 x70894), (27, .slice (some ⟨g38389, 0, none⟩) l38390.length 2), (28, .int .i64 (l38390.length : Int)), (29, .int .i64 x50074), (145, .bool (true))] (by kernel_rfl) ?_
                        exact fun a ha => ⟨t73445, t73446, true, ha, (hS.re [3, 3, 3, 3] [] rfl (sub_cons 0 rfl (sub_cons 0 rfl (sub_cons 1 rfl (sub_cons 1 rfl (sub_cons 3 rfl (sub_cons 4 rfl (sub_tail (sub_tail (sub_tail (sub_tail (sub_tail (sub_self))))))))))))), H⟩
                    · obtain ⟨x73441, x73442, x73443, ha, hS, H⟩ := hI
                      rw [hj73444] at H
                      (try dsimp only at H)
                      refine EW.at ?_ a ha
                      clear ha a
                      refine EW.condP' (o := (.tmp 145)) (x := Cd3.r.r.r.l.r.l.l.r.r.l.l.r.r.r.r.l.l.r.l.l.r.r.l) (y := Cd3.r.r.r.l.r.l.l.r.r.l.l.r.r.r.r.l.l.r.l.l.r.r.r) (x73443) (by kernel_rfl) (by kernel_rfl) (fun h73462 => ?_) (fun h73462 => ?_)
                      · rw [if_pos h73462] at H
                        refine EW.seq (x := Cd3.r.r.r.l.r.l.l.r.r.l.l.r.r.r.r.l.l.r.l.l.r.r.l.l) (y := Cd3.r.r.r.l.r.l.l.r.r.l.l.r.r.r.r.l.l.r.l.l.r.r.l.r) (by kernel_rfl) ?_
                        refine EW.region (id := 36) (ops := Cd3.r.r.r.l.r.l.l.r.r.l.l.r.r.r.r.l.l.r.l.l.r.r.l.l.ops) (by kernel_rfl) ?_
                        refine EL.quick 1 [4] [(4, .bool (false))] (by kernel_rfl) ?_
                        refine EL.done (by kernel_rfl) ?_
                        refine EQ.code ?_
                        refine EW.ret (by kernel_rfl) ?_
                        refine EQ.ret ?_
                        refine EQ.ret ?_
                        refine EQ.ret ?_
                        refine EQ.ret ?_
                        refine EQ.ret ?_
                        refine EQ.ret ?_
                        refine EQ.ret ?_
                        refine EQ.ret ?_
                        refine EQ.ret ?_
                        obtain rfl := Option.some.inj H
                        exact EQ.leave (.bool (false)) (by kernel_rfl) ⟨_, rfl, rfl, (hS.re [] [0, 0, 0, 0] rfl (sub_tail (sub_tail (sub_tail (sub_tail (sub_tail (sub_self)))))))⟩
                      · rw [if_neg h73462] at H
                        refine EW.skip (by kernel_rfl) ?_
                        refine EQ.pop ?_
                        refine EQ.code ?_
                        refine EW.region (id := 13) (ops := Cd3.r.r.r.l.r.l.l.r.r.l.l.r.r.r.r.l.l.r.r.ops) (by kernel_rfl) ?_
                        refine EL.quick 3 [1, 7, 8, 9, 27, 28, 29] [(1, .slice A7 l6.length C8), (7, .pointer (some ⟨g69581, 0, none⟩)), (8, .pointer (some ⟨g69587, 0, none⟩)), (9, .int .i64 (IntKind.i64.wrap (x70894 + 1))), (27, .slice (some ⟨g38389, 0, none⟩) l38390.length 2), (28, .int .i64 (l38390.length : Int)), (29, .int .i64 x50074)] (by kernel_rfl) ?_
                        refine EL.done (by kernel_rfl) ?_
                        refine EQ.to ?_
                        refine EQ.keep [1, 7, 8, 9, 27, 28, 29] [(1, .slice A7 l6.length C8), (7, .pointer (some ⟨g69581, 0, none⟩)), (8, .pointer (some ⟨g69587, 0, none⟩)), (9, .int .i64 (IntKind.i64.wrap (x70894 + 1))), (27, .slice (some ⟨g38389, 0, none⟩) l38390.length 2), (28, .int .i64 (l38390.length : Int)), (29, .int .i64 x50074)] (by kernel_rfl) ?_
                        exact fun a ha => ⟨n, Nat.lt_succ_self n, x73209, x73441, x73442, x73205, x73206, IntKind.i64.wrap (x70894 + 1), A73210, C73211, A73207, C73208, ha, (hS.re [3, 3, 3, 3] [] rfl (sub_cons 0 rfl (sub_cons 4 rfl (sub_cons 5 rfl (sub_tail (sub_tail (sub_tail (sub_tail (sub_tail (sub_tail (sub_self))))))))))), H⟩
                · rw [if_neg h72184] at H
                  refine EW.exit (id := 2) (by kernel_rfl) ?_
                  refine EQ.exitCode ?_
                  refine EQ.exitTo ?_
                  refine EQ.exitHere ?_
                  refine EQ.pop ?_
                  refine EQ.to ?_
                  refine EQ.keep [1, 27, 28, 29] [(1, .slice A7 l6.length C8), (27, .slice (some ⟨g38389, 0, none⟩) l38390.length 2), (28, .int .i64 (l38390.length : Int)), (29, .int .i64 x50074)] (by kernel_rfl) ?_
                  exact fun a ha => ⟨x70885, x70888, x70889, x70890, x70891, g69581, g69587, A70886, C70887, A70892, C70893, ha, (hS.re [3, 3, 3, 3] [] rfl (sub_cons 0 rfl (sub_cons 2 rfl (sub_tail (sub_tail (sub_tail (sub_self))))))), H⟩
            · rw [if_neg h69608] at H
              refine EW.seq (x := Cd3.r.r.r.l.r.l.l.r.r.l.l.r.r.l.r.l.l) (y := Cd3.r.r.r.l.r.l.l.r.r.l.l.r.r.l.r.l.r) (by kernel_rfl) ?_
              refine EW.region (id := 10) (ops := Cd3.r.r.r.l.r.l.l.r.r.l.l.r.r.l.r.l.l.ops) (by kernel_rfl) ?_
              refine EL.quick 1 [4] [(4, .bool (false))] (by kernel_rfl) ?_
              refine EL.done (by kernel_rfl) ?_
              refine EQ.code ?_
              refine EW.ret (by kernel_rfl) ?_
              refine EQ.ret ?_
              refine EQ.ret ?_
              refine EQ.ret ?_
              refine EQ.ret ?_
              refine EQ.ret ?_
              refine EQ.ret ?_
              obtain rfl := Option.some.inj H
              exact EQ.leave (.bool (false)) (by kernel_rfl) ⟨_, rfl, rfl, (hS.re [] [0, 0, 0, 0] rfl (sub_tail (sub_self)))⟩
          · obtain ⟨x69553, x69556, x69557, x69558, x69559, g69551, g69552, A69554, C69555, A69560, C69561, ha, hS, H⟩ := hI
            rw [hj69562] at H
            (try dsimp only at H)
            refine EW.at ?_ a ha
            clear ha a
            refine EW.region (id := 37) (ops := Cd3.r.r.r.l.r.l.l.r.r.r.ops) (by kernel_rfl) ?_
            refine EL.quick 2 [1, 27, 28, 29] [(1, .slice A7 l6.length C8), (27, .slice (some ⟨g38389, 0, none⟩) l38390.length 2), (28, .int .i64 (l38390.length : Int)), (29, .int .i64 (IntKind.i64.wrap (x50074 + 1)))] (by kernel_rfl) ?_
            refine EL.done (by kernel_rfl) ?_
            refine EQ.to ?_
            refine EQ.keep [1, 27, 28, 29] [(1, .slice A7 l6.length C8), (27, .slice (some ⟨g38389, 0, none⟩) l38390.length 2), (28, .int .i64 (l38390.length : Int)), (29, .int .i64 (IntKind.i64.wrap (x50074 + 1)))] (by kernel_rfl) ?_
            exact fun a ha => ⟨n, Nat.lt_succ_self n, IntKind.i64.wrap (x50074 + 1), ha, (hS.re [3] [1, 1, 1] rfl (sub_cons 1 rfl (sub_tail (sub_tail (sub_self))))), H⟩
        · rw [if_neg h61765] at H
          refine EW.exit (id := 0) (by kernel_rfl) ?_
          refine EQ.exitCode ?_
          refine EQ.exitTo ?_
          refine EQ.exitHere ?_
          refine EQ.code ?_
          refine EW.seq (x := Cd3.r.r.r.r.l) (y := Cd3.r.r.r.r.r) (by kernel_rfl) ?_
          refine EW.region (id := 38) (ops := Cd3.r.r.r.r.l.ops) (by kernel_rfl) ?_
          refine EL.quick 1 [4] [(4, .bool (true))] (by kernel_rfl) ?_
          refine EL.done (by kernel_rfl) ?_
          refine EQ.code ?_
          refine EW.ret (by kernel_rfl) ?_
          obtain rfl := Option.some.inj H
          exact EQ.leave (.bool (true)) (by kernel_rfl) ⟨_, rfl, rfl, (hS.re [] [0] rfl (sub_self))⟩
  · rw [if_neg h38384] at H
    refine EW.seq (x := Cd3.r.l.r.l.l) (y := Cd3.r.l.r.l.r) (by kernel_rfl) ?_
    refine EW.region (id := 2) (ops := Cd3.r.l.r.l.l.ops) (by kernel_rfl) ?_
    refine EL.quick 1 [4] [(4, .bool (false))] (by kernel_rfl) ?_
    refine EL.done (by kernel_rfl) ?_
    refine EQ.code ?_
    refine EW.ret (by kernel_rfl) ?_
    refine EQ.ret ?_
    obtain rfl := Option.some.inj H
    exact EQ.leave (.bool (false)) (by kernel_rfl) ⟨_, rfl, rfl, (hS.re [] [] rfl (sub_self))⟩

def confidantlaw15_RingPlays.Pure : Prop := ∀ (a5 : Int) (l6 : List Int), (Lit.int .i64 a5).wf = true → l6.length * 1 ≤ 140737488351232 → (∀ x ∈ l6, (Lit.int .u8 x).wf = true) → ∃ K, confidantlaw15_RingPlays.f K a5 l6 = some true

noncomputable def Cd4 : Code := bodyOf Try.f4

end Go.Proofs.Ytjfnejcanlkknaa.G
