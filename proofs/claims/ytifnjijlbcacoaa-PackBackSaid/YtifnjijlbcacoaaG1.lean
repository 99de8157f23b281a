import Derived.Test.YtifnjijlbcacoaaG0
namespace Go.Proofs.Ytifnjijlbcacoaa.G
open Go Go.Fw Go.RowKit Go.Proofs
set_option linter.unusedVariables false
set_option linter.unusedSimpArgs false

/-! ### confidant/confidantlaw17.PicksFirst: function 4 -/
def confidantlaw17_PicksFirst.l1 (K : Nat) (a10 : Int) (j4353 : (List Int) → Int → (List Int) → Int → Option Bool) : Nat → (List Int) → Int → (List Int) → Int → Int → Option Bool
  | 0, _, _, _, _, _ => none
  | n + 1, x4422, x4425, x4426, x4429, x4430 => if x4430 < 20 then (b3 (picks_Picks_Next.f K x4426 x4429 (IntKind.i64.wrap ((IntKind.i64.wrap (Int.tmod a10 8)) + 1))) fun (t4540 : Int) (t4541 : List Int) (t4542 : Int) => (b3 (picks_Picks_Next.f K x4422 x4425 (IntKind.i64.wrap ((IntKind.i64.wrap (Int.tmod a10 8)) + 1))) fun (t4546 : Int) (t4547 : List Int) (t4548 : Int) => (if t4542 = t4548 then (confidantlaw17_PicksFirst.l1 K a10 j4353 n t4547 t4546 t4541 t4540 (IntKind.i64.wrap (x4430 + 1))) else (some false)))) else (j4353 x4422 x4425 x4426 x4429)
def confidantlaw17_PicksFirst.l0 (K : Nat) (l6 : List Int) (a10 : Int) (j3391 : (List Int) → Int → (List Int) → Int → Option Bool) : Nat → (List Int) → Int → (List Int) → Int → Int → Option Bool
  | 0, _, _, _, _, _ => none
  | n + 1, x3566, x3569, x3570, x3573, x3574 => if x3574 < (l6.length : Int) then (lt (fun (x3885 : List Int) (x3888 : Int) (x3889 : Int) (x3890 : List Int) (x3893 : Bool) => (if x3893 = true then (some false) else (confidantlaw17_PicksFirst.l0 K l6 a10 j3391 n x3890 x3889 x3885 x3888 (IntKind.i64.wrap (x3574 + 1))))) fun j3894 => (b3 (picks_Picks_Next.f K x3570 x3573 (IntKind.i64.wrap ((IntKind.i64.wrap (Int.tmod a10 8)) + 1))) fun (t3895 : Int) (t3896 : List Int) (t3897 : Int) => (if 0 ≤ x3574 then (if (IntKind.i64.wrap ((IntKind.i64.wrap (Int.tmod a10 8)) + 1)) = 0 then none else (if t3897 = (Int.tmod (IntKind.i64.wrap (l6.getD x3574.toNat 0)) (IntKind.i64.wrap ((IntKind.i64.wrap (Int.tmod a10 8)) + 1))) then (b3 (picks_Picks_Next.f K x3566 x3569 (IntKind.i64.wrap ((IntKind.i64.wrap (Int.tmod a10 8)) + 1))) fun (t3905 : Int) (t3906 : List Int) (t3907 : Int) => (if t3907 = (Int.tmod (IntKind.i64.wrap (l6.getD x3574.toNat 0)) (IntKind.i64.wrap ((IntKind.i64.wrap (Int.tmod a10 8)) + 1))) then (b2 (picks_Picks_Left.f K t3896 t3895) fun (t3913 : Int) (t3914 : Int) => (j3894 t3896 t3913 t3905 t3906 (!(decide (t3914 = (IntKind.i64.wrap ((IntKind.i64.wrap ((l6.length : Int) - x3574)) - 1))))))) else (j3894 t3896 t3895 t3905 t3906 true))) else (j3894 t3896 t3895 x3569 x3566 true))) else none))) else (j3391 x3566 x3569 x3570 x3573)
def confidantlaw17_PicksFirst.f (K : Nat) (l6 : List Int) (a9 : Int) (a10 : Int) : Option Bool := b1 (confidantlaw17_known.f K) fun (t2278 : Bool) => (if t2278 = true then (if (l6.length : Int) > 30 then (some true) else (b2 (picks_New.f K l6 a9) fun (t2304 : List Int) (t2305 : Int) => (b2 (picks_New.f K l6 (IntKind.u64.wrap (a9 + 1))) fun (t2311 : List Int) (t2312 : Int) => (b2 (picks_New.f K ([] : List Int) a9) fun (t2318 : List Int) (t2319 : Int) => (lt (fun (x3383 : List Int) (x3386 : Int) (x3387 : List Int) (x3390 : Int) => (lt (fun (x4345 : List Int) (x4348 : Int) (x4349 : List Int) (x4352 : Int) => (b2 (picks_Picks_Left.f K x4349 x4352) fun (t4553 : Int) (t4554 : Int) => (if t4554 = 0 then (b2 (picks_Picks_Left.f K x3383 x3386) fun (t4557 : Int) (t4558 : Int) => (some (decide (t4558 = 0)))) else (some false)))) fun j4353 => (confidantlaw17_PicksFirst.l1 K a10 j4353 K t2318 t2319 x3387 x3390 0))) fun j3391 => (confidantlaw17_PicksFirst.l0 K l6 a10 j3391 K t2311 t2312 t2304 t2305 0)))))) else (some false))
set_option maxRecDepth 100000 in
theorem confidantlaw17_PicksFirst.calls {K : Nat} {l6 : List Int} {a9 : Int} {a10 : Int} {A7 : Option Addr} {C8 : Nat} {x2270 : Bool} {B w : World} {os : List Ass} {rs : List Ro} (H : confidantlaw17_PicksFirst.f K l6 a9 a10 = some x2270) (hS : St B w (os) (Ro.sl (Kd.int .u8) A7 C8 l6 :: rs)) :
    Calls Try.prog 4 [.slice A7 l6.length C8, .int .u64 a9, .int .u8 a10].toArray w (fun en w' => ∃ v, en = .returned v ∧ v = .bool (x2270) ∧ St B w' (os) (Ro.sl (Kd.int .u8) A7 C8 l6 :: rs)) := by
  unfold confidantlaw17_PicksFirst.f at H
  refine calls_of_EW (args := [.slice A7 l6.length C8, .int .u64 a9, .int .u8 a10]) (c := Cd4) 90 Try.func4 (by kernel_rfl) (by kernel_rfl) (by kernel_rfl) ?_
  refine EW.seq (x := Cd4.l) (y := Cd4.r) (by kernel_rfl) ?_
  refine EW.region (id := 0) (ops := Cd4.l.ops) (by kernel_rfl) ?_
  refine EL.quick 1 [0, 1, 2] [(0, .slice A7 l6.length C8), (1, .int .u64 a9), (2, .int .u8 a10)] (by kernel_rfl) ?_
  refine EL.done (by kernel_rfl) ?_
  refine EQ.code ?_
  refine EW.seq (x := Cd4.r.l) (y := Cd4.r.r) (by kernel_rfl) ?_
  refine EW.seq (x := Cd4.r.l.l) (y := Cd4.r.l.r) (by kernel_rfl) ?_
  refine EW.region (id := 1) (ops := Cd4.r.l.l.ops) (by kernel_rfl) ?_
  obtain ⟨t2278, hc2279, H⟩ := b1_out H
  refine EL.of (EO.callD 13 [] _ 13 (by kernel_rfl) (by kernel_rfl) (by kernel_rfl) (confidantlaw17_known.calls hc2279 hS) ?_)
  rintro v w ⟨rfl, hS⟩
  refine EL.quick 1 [0, 1, 2, 14] [(0, .slice A7 l6.length C8), (1, .int .u64 a9), (2, .int .u8 a10), (14, .bool (!(t2278)))] (by kernel_rfl) ?_
  refine EL.done (by kernel_rfl) ?_
  refine EQ.code ?_
  refine EW.condQ (b := !(t2278)) (o := (.tmp 14)) (x := Cd4.r.l.r.l) (y := Cd4.r.l.r.r) (t2278 = true) (false) (by kernel_rfl) (by kernel_rfl) ⟨fun h => (by rw [h] <;> rfl), fun h => (by rw [Bool.eq_false_iff.2 h] <;> rfl)⟩ (fun h2280 => ?_) (fun h2280 => ?_)
  · rw [if_pos h2280] at H
    refine EW.skip (by kernel_rfl) ?_
    refine EQ.code ?_
    refine EW.seq (x := Cd4.r.r.l) (y := Cd4.r.r.r) (by kernel_rfl) ?_
    refine EW.seq (x := Cd4.r.r.l.l) (y := Cd4.r.r.l.r) (by kernel_rfl) ?_
    refine EW.region (id := 3) (ops := Cd4.r.r.l.l.ops) (by kernel_rfl) ?_
    refine EL.quick 3 [0, 1, 2, 17] [(0, .slice A7 l6.length C8), (1, .int .u64 a9), (2, .int .u8 a10), (17, .bool (decide ((l6.length : Int) > 30)))] (by kernel_rfl) ?_
    refine EL.done (by kernel_rfl) ?_
    refine EQ.code ?_
    refine EW.condP (o := (.tmp 17)) (x := Cd4.r.r.l.r.l) (y := Cd4.r.r.l.r.r) ((l6.length : Int) > 30) (by kernel_rfl) (by kernel_rfl) (fun h2282 => ?_) (fun h2282 => ?_)
    · rw [if_pos h2282] at H
      refine EW.seq (x := Cd4.r.r.l.r.l.l) (y := Cd4.r.r.l.r.l.r) (by kernel_rfl) ?_
      refine EW.region (id := 4) (ops := Cd4.r.r.l.r.l.l.ops) (by kernel_rfl) ?_
      refine EL.quick 1 [6] [(6, .bool (true))] (by kernel_rfl) ?_
      refine EL.done (by kernel_rfl) ?_
      refine EQ.code ?_
      refine EW.ret (by kernel_rfl) ?_
      refine EQ.ret ?_
      obtain rfl := Option.some.inj H
      exact EQ.leave (.bool (true)) (by kernel_rfl) ⟨_, rfl, rfl, (hS.re [] [] rfl (sub_self))⟩
    · rw [if_neg h2282] at H
      refine EW.skip (by kernel_rfl) ?_
      refine EQ.code ?_
      refine EW.seq (x := Cd4.r.r.r.l) (y := Cd4.r.r.r.r) (by kernel_rfl) ?_
      refine EW.region (id := 5) (ops := Cd4.r.r.r.l.ops) (by kernel_rfl) ?_
      refine EL.quick 5 [0, 1, 7] [(0, .slice A7 l6.length C8), (1, .int .u64 a9), (7, .int .i64 (IntKind.i64.wrap ((IntKind.i64.wrap (Int.tmod a10 8)) + 1)))] (by kernel_rfl) ?_
      refine EL.done (by kernel_rfl) ?_
      refine EQ.code ?_
      refine EW.seq (x := Cd4.r.r.r.r.l) (y := Cd4.r.r.r.r.r) (by kernel_rfl) ?_
      refine EW.region (id := 6) (ops := Cd4.r.r.r.r.l.ops) (by kernel_rfl) ?_
      refine EL.quick 2 [0, 1, 7, 22, 23] [(0, .slice A7 l6.length C8), (1, .int .u64 a9), (7, .int .i64 (IntKind.i64.wrap ((IntKind.i64.wrap (Int.tmod a10 8)) + 1))), (22, .slice A7 l6.length C8), (23, .int .u64 a9)] (by kernel_rfl) ?_
      have hS : St B _ (os) (Ro.sl (Kd.int .u8) A7 C8 l6 :: Ro.sl (Kd.int .u8) A7 C8 l6 :: rs) := hS.re [] [] rfl (sub_cons 0 rfl sub_self)
      obtain ⟨t2304, t2305, hc2310, H⟩ := b2_out H
      refine EL.of (EO.callD 14 [.slice A7 l6.length C8, .int .u64 a9] _ 24 (by kernel_rfl) (by kernel_rfl) (by kernel_rfl) (picks_New.calls hc2310 hS) ?_)
      rintro v w ⟨g2306, g2307, A2308, C2309, rfl, hS⟩
      refine EL.quick 3 [0, 1, 7, 24, 25, 27] [(0, .slice A7 l6.length C8), (1, .int .u64 a9), (7, .int .i64 (IntKind.i64.wrap ((IntKind.i64.wrap (Int.tmod a10 8)) + 1))), (24, .pointer (some ⟨g2306, 0, none⟩)), (25, .slice A7 l6.length C8), (27, .int .u64 (IntKind.u64.wrap (a9 + 1)))] (by kernel_rfl) ?_
      have hS : St B _ (Ass.box 89 g2306 [.slice A2308 t2304.length C2309, .func (.func 46) #[.pointer (some ⟨g2307, 0, none⟩)] #[]] :: Ass.box 103 g2307 [.int .u64 t2305] :: Ass.own 5 (Kd.int .u8) A2308 C2309 t2304 :: os) (Ro.sl (Kd.int .u8) A7 C8 l6 :: Ro.sl (Kd.int .u8) A7 C8 l6 :: Ro.sl (Kd.int .u8) A7 C8 l6 :: rs) := hS.re [] [] rfl (sub_cons 0 rfl sub_self)
      obtain ⟨t2311, t2312, hc2317, H⟩ := b2_out H
      refine EL.of (EO.callD 14 [.slice A7 l6.length C8, .int .u64 (IntKind.u64.wrap (a9 + 1))] _ 28 (by kernel_rfl) (by kernel_rfl) (by kernel_rfl) (picks_New.calls hc2317 hS) ?_)
      rintro v w ⟨g2313, g2314, A2315, C2316, rfl, hS⟩
      refine EL.quick 1 [0, 7, 24, 28, 29] [(0, .slice A7 l6.length C8), (7, .int .i64 (IntKind.i64.wrap ((IntKind.i64.wrap (Int.tmod a10 8)) + 1))), (24, .pointer (some ⟨g2306, 0, none⟩)), (28, .pointer (some ⟨g2313, 0, none⟩)), (29, .int .u64 a9)] (by kernel_rfl) ?_
      have hS := St.nilR hS (Kd.int .u8)
      have hS : St B _ (Ass.box 89 g2313 [.slice A2315 t2311.length C2316, .func (.func 46) #[.pointer (some ⟨g2314, 0, none⟩)] #[]] :: Ass.box 103 g2314 [.int .u64 t2312] :: Ass.own 5 (Kd.int .u8) A2315 C2316 t2311 :: Ass.box 89 g2306 [.slice A2308 t2304.length C2309, .func (.func 46) #[.pointer (some ⟨g2307, 0, none⟩)] #[]] :: Ass.box 103 g2307 [.int .u64 t2305] :: Ass.own 5 (Kd.int .u8) A2308 C2309 t2304 :: os) (Ro.sl (Kd.int .u8) none 0 ([] : List Int) :: Ro.sl (Kd.int .u8) none 0 ([] : List Int) :: Ro.sl (Kd.int .u8) A7 C8 l6 :: Ro.sl (Kd.int .u8) A7 C8 l6 :: Ro.sl (Kd.int .u8) A7 C8 l6 :: rs) := hS.re [] [] rfl (sub_cons 0 rfl sub_self)
      obtain ⟨t2318, t2319, hc2324, H⟩ := b2_out H
      refine EL.of (EO.callD 14 [.slice none ([] : List Int).length 0, .int .u64 a9] _ 30 (by kernel_rfl) (by kernel_rfl) (by kernel_rfl) (picks_New.calls hc2324 hS) ?_)
      rintro v w ⟨g2320, g2321, A2322, C2323, rfl, hS⟩
      refine EL.quick 3 [0, 7, 8, 9, 10] [(0, .slice A7 l6.length C8), (7, .int .i64 (IntKind.i64.wrap ((IntKind.i64.wrap (Int.tmod a10 8)) + 1))), (8, .pointer (some ⟨g2306, 0, none⟩)), (9, .pointer (some ⟨g2313, 0, none⟩)), (10, .pointer (some ⟨g2320, 0, none⟩))] (by kernel_rfl) ?_
      refine EL.done (by kernel_rfl) ?_
      refine EQ.code ?_
      obtain ⟨j3391, hj3391, H⟩ := lt_out H
      refine EW.cut (x := Cd4.r.r.r.r.r.l) (y := Cd4.r.r.r.r.r.r) (fun a w => ∃ x3383 : List Int, ∃ x3386 : Int, ∃ x3387 : List Int, ∃ x3390 : Int, ∃ A3384 : Option Addr, ∃ C3385 : Nat, ∃ A3388 : Option Addr, ∃ C3389 : Nat, Sat 90 [(7, .int .i64 (IntKind.i64.wrap ((IntKind.i64.wrap (Int.tmod a10 8)) + 1))), (8, .pointer (some ⟨g2306, 0, none⟩)), (9, .pointer (some ⟨g2313, 0, none⟩)), (10, .pointer (some ⟨g2320, 0, none⟩))] a ∧ St B w (Ass.box 89 g2320 [.slice A2322 t2318.length C2323, .func (.func 46) #[.pointer (some ⟨g2321, 0, none⟩)] #[]] :: Ass.box 103 g2321 [.int .u64 t2319] :: Ass.own 5 (Kd.int .u8) A2322 C2323 t2318 :: Ass.box 89 g2313 [.slice A3384 x3383.length C3385, .func (.func 46) #[.pointer (some ⟨g2314, 0, none⟩)] #[]] :: Ass.box 103 g2314 [.int .u64 x3386] :: Ass.own 5 (Kd.int .u8) A3384 C3385 x3383 :: Ass.box 89 g2306 [.slice A3388 x3387.length C3389, .func (.func 46) #[.pointer (some ⟨g2307, 0, none⟩)] #[]] :: Ass.box 103 g2307 [.int .u64 x3390] :: Ass.own 5 (Kd.int .u8) A3388 C3389 x3387 :: os) (Ro.sl (Kd.int .u8) none 0 ([] : List Int) :: Ro.sl (Kd.int .u8) none 0 ([] : List Int) :: Ro.sl (Kd.int .u8) A7 C8 l6 :: Ro.sl (Kd.int .u8) A7 C8 l6 :: Ro.sl (Kd.int .u8) A7 C8 l6 :: rs) ∧ j3391 x3383 x3386 x3387 x3390 = some x2270) (by kernel_rfl) ?_ (fun a w hI => ?_)
      · refine EW.seq (x := Cd4.r.r.r.r.r.l.l) (y := Cd4.r.r.r.r.r.l.r) (by kernel_rfl) ?_
        refine EW.region (id := 7) (ops := Cd4.r.r.r.r.r.l.l.ops) (by kernel_rfl) ?_
        refine EL.quick 1 [0, 7, 8, 9, 10, 11] [(0, .slice A7 l6.length C8), (7, .int .i64 (IntKind.i64.wrap ((IntKind.i64.wrap (Int.tmod a10 8)) + 1))), (8, .pointer (some ⟨g2306, 0, none⟩)), (9, .pointer (some ⟨g2313, 0, none⟩)), (10, .pointer (some ⟨g2320, 0, none⟩)), (11, .int .i64 0)] (by kernel_rfl) ?_
        refine EL.done (by kernel_rfl) ?_
        refine EQ.code ?_
        refine EW.block (x := Cd4.r.r.r.r.r.l.r.l) (id := 0) (by kernel_rfl) ?_
        refine EW.loop (x := Cd4.r.r.r.r.r.l.r.l.l) (fun n a w => ∃ x3566 : List Int, ∃ x3569 : Int, ∃ x3570 : List Int, ∃ x3573 : Int, ∃ x3574 : Int, ∃ A3567 : Option Addr, ∃ C3568 : Nat, ∃ A3571 : Option Addr, ∃ C3572 : Nat, Sat 90 [(0, .slice A7 l6.length C8), (7, .int .i64 (IntKind.i64.wrap ((IntKind.i64.wrap (Int.tmod a10 8)) + 1))), (8, .pointer (some ⟨g2306, 0, none⟩)), (9, .pointer (some ⟨g2313, 0, none⟩)), (10, .pointer (some ⟨g2320, 0, none⟩)), (11, .int .i64 x3574)] a ∧ St B w (Ass.box 89 g2320 [.slice A2322 t2318.length C2323, .func (.func 46) #[.pointer (some ⟨g2321, 0, none⟩)] #[]] :: Ass.box 103 g2321 [.int .u64 t2319] :: Ass.own 5 (Kd.int .u8) A2322 C2323 t2318 :: Ass.box 89 g2313 [.slice A3567 x3566.length C3568, .func (.func 46) #[.pointer (some ⟨g2314, 0, none⟩)] #[]] :: Ass.box 103 g2314 [.int .u64 x3569] :: Ass.own 5 (Kd.int .u8) A3567 C3568 x3566 :: Ass.box 89 g2306 [.slice A3571 x3570.length C3572, .func (.func 46) #[.pointer (some ⟨g2307, 0, none⟩)] #[]] :: Ass.box 103 g2307 [.int .u64 x3573] :: Ass.own 5 (Kd.int .u8) A3571 C3572 x3570 :: os) (Ro.sl (Kd.int .u8) none 0 ([] : List Int) :: Ro.sl (Kd.int .u8) none 0 ([] : List Int) :: Ro.sl (Kd.int .u8) A7 C8 l6 :: Ro.sl (Kd.int .u8) A7 C8 l6 :: Ro.sl (Kd.int .u8) A7 C8 l6 :: rs) ∧ confidantlaw17_PicksFirst.l0 K l6 a10 j3391 n x3566 x3569 x3570 x3573 x3574 = some x2270) K (by kernel_rfl) ?_ (fun n a w hI => ?_)
        · refine EQ.keep [0, 7, 8, 9, 10, 11] [(0, .slice A7 l6.length C8), (7, .int .i64 (IntKind.i64.wrap ((IntKind.i64.wrap (Int.tmod a10 8)) + 1))), (8, .pointer (some ⟨g2306, 0, none⟩)), (9, .pointer (some ⟨g2313, 0, none⟩)), (10, .pointer (some ⟨g2320, 0, none⟩)), (11, .int .i64 0)] (by kernel_rfl) ?_
          exact fun a ha => ⟨t2311, t2312, t2304, t2305, 0, A2315, C2316, A2308, C2309, ha, (hS.re [8, 8, 8, 8, 8, 8, 8, 8, 8] [] rfl (sub_cons 0 rfl (sub_cons 0 rfl (sub_cons 2 rfl (sub_cons 2 rfl (sub_cons 2 rfl (sub_tail (sub_tail (sub_tail (sub_tail (sub_tail (sub_self)))))))))))), H⟩
        · obtain ⟨x3566, x3569, x3570, x3573, x3574, A3567, C3568, A3571, C3572, ha, hS, H⟩ := hI
          obtain _ | n := n
          · simp [confidantlaw17_PicksFirst.l0] at H
          rw [confidantlaw17_PicksFirst.l0.eq_2] at H
          refine EW.at ?_ a ha
          clear ha a
          refine EW.seq (x := Cd4.r.r.r.r.r.l.r.l.l.l) (y := Cd4.r.r.r.r.r.l.r.l.l.r) (by kernel_rfl) ?_
          refine EW.seq (x := Cd4.r.r.r.r.r.l.r.l.l.l.l) (y := Cd4.r.r.r.r.r.l.r.l.l.l.r) (by kernel_rfl) ?_
          refine EW.region (id := 8) (ops := Cd4.r.r.r.r.r.l.r.l.l.l.l.ops) (by kernel_rfl) ?_
          refine EL.quick 4 [0, 7, 8, 9, 10, 11, 34] [(0, .slice A7 l6.length C8), (7, .int .i64 (IntKind.i64.wrap ((IntKind.i64.wrap (Int.tmod a10 8)) + 1))), (8, .pointer (some ⟨g2306, 0, none⟩)), (9, .pointer (some ⟨g2313, 0, none⟩)), (10, .pointer (some ⟨g2320, 0, none⟩)), (11, .int .i64 x3574), (34, .bool (decide (x3574 < (l6.length : Int))))] (by kernel_rfl) ?_
          refine EL.done (by kernel_rfl) ?_
          refine EQ.code ?_
          refine EW.condP (o := (.tmp 34)) (x := Cd4.r.r.r.r.r.l.r.l.l.l.r.l) (y := Cd4.r.r.r.r.r.l.r.l.l.l.r.r) (x3574 < (l6.length : Int)) (by kernel_rfl) (by kernel_rfl) (fun h3756 => ?_) (fun h3756 => ?_)
          · rw [if_pos h3756] at H
            refine EW.skip (by kernel_rfl) ?_
            refine EQ.code ?_
            refine EW.seq (x := Cd4.r.r.r.r.r.l.r.l.l.r.l) (y := Cd4.r.r.r.r.r.l.r.l.l.r.r) (by kernel_rfl) ?_
            refine EW.block (x := Cd4.r.r.r.r.r.l.r.l.l.r.l.l) (id := 1) (by kernel_rfl) ?_
            obtain ⟨j3894, hj3894, H⟩ := lt_out H
            refine EW.cut (x := Cd4.r.r.r.r.r.l.r.l.l.r.l.l.l) (y := Cd4.r.r.r.r.r.l.r.l.l.r.l.l.r) (fun a w => ∃ x3885 : List Int, ∃ x3888 : Int, ∃ x3889 : Int, ∃ x3890 : List Int, ∃ x3893 : Bool, ∃ A3886 : Option Addr, ∃ C3887 : Nat, ∃ A3891 : Option Addr, ∃ C3892 : Nat, Sat 90 [(0, .slice A7 l6.length C8), (7, .int .i64 (IntKind.i64.wrap ((IntKind.i64.wrap (Int.tmod a10 8)) + 1))), (8, .pointer (some ⟨g2306, 0, none⟩)), (9, .pointer (some ⟨g2313, 0, none⟩)), (10, .pointer (some ⟨g2320, 0, none⟩)), (11, .int .i64 x3574), (70, .bool (x3893))] a ∧ St B w (Ass.box 89 g2306 [.slice A3886 x3885.length C3887, .func (.func 46) #[.pointer (some ⟨g2307, 0, none⟩)] #[]] :: Ass.own 5 (Kd.int .u8) A3886 C3887 x3885 :: Ass.box 103 g2307 [.int .u64 x3888] :: Ass.box 103 g2314 [.int .u64 x3889] :: Ass.box 89 g2313 [.slice A3891 x3890.length C3892, .func (.func 46) #[.pointer (some ⟨g2314, 0, none⟩)] #[]] :: Ass.own 5 (Kd.int .u8) A3891 C3892 x3890 :: Ass.box 89 g2320 [.slice A2322 t2318.length C2323, .func (.func 46) #[.pointer (some ⟨g2321, 0, none⟩)] #[]] :: Ass.box 103 g2321 [.int .u64 t2319] :: Ass.own 5 (Kd.int .u8) A2322 C2323 t2318 :: os) (Ro.sl (Kd.int .u8) none 0 ([] : List Int) :: Ro.sl (Kd.int .u8) none 0 ([] : List Int) :: Ro.sl (Kd.int .u8) A7 C8 l6 :: Ro.sl (Kd.int .u8) A7 C8 l6 :: Ro.sl (Kd.int .u8) A7 C8 l6 :: rs) ∧ j3894 x3885 x3888 x3889 x3890 x3893 = some x2270) (by kernel_rfl) ?_ (fun a w hI => ?_)
            · obtain ⟨t3895, t3896, t3897, hc3900, H⟩ := b3_out H
              obtain ⟨h3901, H⟩ := ite_in H
              obtain ⟨ad3902, rfl⟩ := St.rd_some hS (Rd.ro 2 rfl) h3901 h3756
              obtain ⟨h3903, H⟩ := ite_out H
              by_cases h3904 : t3897 = (Int.tmod (IntKind.i64.wrap (l6.getD x3574.toNat 0)) (IntKind.i64.wrap ((IntKind.i64.wrap (Int.tmod a10 8)) + 1)))
              · rw [if_pos h3904] at H
                obtain ⟨t3905, t3906, t3907, hc3910, H⟩ := b3_out H
                by_cases h3912 : t3907 = (Int.tmod (IntKind.i64.wrap (l6.getD x3574.toNat 0)) (IntKind.i64.wrap ((IntKind.i64.wrap (Int.tmod a10 8)) + 1)))
                · rw [if_pos h3912] at H
                  obtain ⟨t3913, t3914, hc3915, H⟩ := b2_out H
                  have hS := hS.drew
                  refine EW.draw (B := B) (id := 10) (ops := Cd4.r.r.r.r.r.l.r.l.l.r.l.l.l.ops) [Ass.box 89 g2320 [.slice A2322 t2318.length C2323, .func (.func 46) #[.pointer (some ⟨g2321, 0, none⟩)] #[]], Ass.box 103 g2321 [.int .u64 t2319], Ass.own 5 (Kd.int .u8) A2322 C2323 t2318] [Ro.sl (Kd.int .u8) none 0 ([] : List Int), Ro.sl (Kd.int .u8) none 0 ([] : List Int), Ro.sl (Kd.int .u8) (some ad3902) C8 l6, Ro.sl (Kd.int .u8) (some ad3902) C8 l6, Ro.sl (Kd.int .u8) (some ad3902) C8 l6] (by kernel_rfl) (by kernel_rfl) ?_
                  have hN : Region.noSelect Cd4.r.r.r.r.r.l.r.l.l.r.l.l.l.ops = true := (by kernel_rfl)
                  have hF : freeAll Cd4.r.r.r.r.r.l.r.l.l.r.l.l.l.ops = true := (by kernel_rfl)
                  have hC : Core B [Ass.box 89 g2320 [.slice A2322 t2318.length C2323, .func (.func 46) #[.pointer (some ⟨g2321, 0, none⟩)] #[]], Ass.box 103 g2321 [.int .u64 t2319], Ass.own 5 (Kd.int .u8) A2322 C2323 t2318] [Ro.sl (Kd.int .u8) none 0 ([] : List Int), Ro.sl (Kd.int .u8) none 0 ([] : List Int), Ro.sl (Kd.int .u8) (some ad3902) C8 l6, Ro.sl (Kd.int .u8) (some ad3902) C8 l6, Ro.sl (Kd.int .u8) (some ad3902) C8 l6] _ := ⟨_, _, hS⟩
                  refine ED.quick hN hF hC [0, 1, 3, 4, 8] [0, 7, 8, 9, 10, 11, 37, 38, 40, 41, 45] 29 [(0, .slice (some ad3902) l6.length C8), (7, .int .i64 (IntKind.i64.wrap ((IntKind.i64.wrap (Int.tmod a10 8)) + 1))), (8, .pointer (some ⟨g2306, 0, none⟩)), (9, .pointer (some ⟨g2313, 0, none⟩)), (10, .pointer (some ⟨g2320, 0, none⟩)), (11, .int .i64 x3574), (37, .pointer (some ⟨g2306, 0, none⟩)), (38, .int .i64 (IntKind.i64.wrap ((IntKind.i64.wrap (Int.tmod a10 8)) + 1))), (40, .slice (some ad3902) l6.length C8), (41, .int .i64 x3574), (45, .int .i64 (IntKind.i64.wrap ((IntKind.i64.wrap (Int.tmod a10 8)) + 1)))] #[true, true, false, true, true, false, false, false, true, false, false, false, false, false, false, false, false, false, false, false, false, false, false, false, false, false, false, false, false, false, false, false, false, false] (by kernel_rfl) (by kernel_rfl) ?_
                  refine ED.Y hN hF hC 5 28 #[true, true, false, true, true, true, false, false, true, false, false, false, false, false, false, false, false, false, false, false, false, false, false, false, false, false, false, false, false, false, false, false, false, false] (by kernel_rfl) (by kernel_rfl) rfl (fun _ _ _ hS => YO.idx 22 1 ad3902 l6.length C8 .i64 x3574 42 (by kernel_rfl) (by kernel_rfl) (by kernel_rfl) (by kernel_rfl) h3901 h3756) ?_
                  refine ED.Y hN hF hC 6 27 #[true, true, false, true, true, true, true, false, true, false, false, false, false, false, false, false, false, false, false, false, false, false, false, false, false, false, false, false, false, false, false, false, false, false] (by kernel_rfl) (by kernel_rfl) rfl (fun _ _ _ hS => YO.loadEl hS (Kd.int .u8) ad3902 C8 l6 (Rd.ro 2 rfl) 0 (encI .u8) encI_of x3574 h3901 h3756 5 1 0 1 rfl (.int .u8 (l6.getD x3574.toNat 0)) 43 (by kernel_rfl) (by kernel_rfl) (by kernel_rfl) (by kernel_rfl)) ?_
                  refine ED.quick hN hF hC [7] [0, 7, 8, 9, 10, 11, 37, 38, 44, 45] 26 [(0, .slice (some ad3902) l6.length C8), (7, .int .i64 (IntKind.i64.wrap ((IntKind.i64.wrap (Int.tmod a10 8)) + 1))), (8, .pointer (some ⟨g2306, 0, none⟩)), (9, .pointer (some ⟨g2313, 0, none⟩)), (10, .pointer (some ⟨g2320, 0, none⟩)), (11, .int .i64 x3574), (37, .pointer (some ⟨g2306, 0, none⟩)), (38, .int .i64 (IntKind.i64.wrap ((IntKind.i64.wrap (Int.tmod a10 8)) + 1))), (44, .int .i64 (IntKind.i64.wrap (l6.getD x3574.toNat 0))), (45, .int .i64 (IntKind.i64.wrap ((IntKind.i64.wrap (Int.tmod a10 8)) + 1)))] #[true, true, false, true, true, true, true, true, true, false, false, false, false, false, false, false, false, false, false, false, false, false, false, false, false, false, false, false, false, false, false, false, false, false] (by kernel_rfl) (by kernel_rfl) ?_
                  refine ED.Y hN hF hC 9 25 #[true, true, false, true, true, true, true, true, true, true, false, false, false, false, false, false, false, false, false, false, false, false, false, false, false, false, false, false, false, false, false, false, false, false] (by kernel_rfl) (by kernel_rfl) rfl (fun _ _ _ hS => YO.div .rem .i64 (IntKind.i64.wrap (l6.getD x3574.toNat 0)) (IntKind.i64.wrap ((IntKind.i64.wrap (Int.tmod a10 8)) + 1)) (Int.tmod (IntKind.i64.wrap (l6.getD x3574.toNat 0)) (IntKind.i64.wrap ((IntKind.i64.wrap (Int.tmod a10 8)) + 1))) 46 (by kernel_rfl) (by kernel_rfl) (by kernel_rfl) h3903 (by first | exact .inl ⟨rfl, rfl⟩ | exact .inr ⟨rfl, rfl⟩)) ?_
                  have hS : St B _ (Ass.box 89 g2306 [.slice A3571 x3570.length C3572, .func (.func 46) #[.pointer (some ⟨g2307, 0, none⟩)] #[]] :: Ass.own 5 (Kd.int .u8) A3571 C3572 x3570 :: Ass.box 103 g2307 [.int .u64 x3573] :: Ass.box 89 g2320 [.slice A2322 t2318.length C2323, .func (.func 46) #[.pointer (some ⟨g2321, 0, none⟩)] #[]] :: Ass.box 103 g2321 [.int .u64 t2319] :: Ass.own 5 (Kd.int .u8) A2322 C2323 t2318 :: Ass.box 89 g2313 [.slice A3567 x3566.length C3568, .func (.func 46) #[.pointer (some ⟨g2314, 0, none⟩)] #[]] :: Ass.box 103 g2314 [.int .u64 x3569] :: Ass.own 5 (Kd.int .u8) A3567 C3568 x3566 :: os) (Ro.sl (Kd.int .u8) none 0 ([] : List Int) :: Ro.sl (Kd.int .u8) none 0 ([] : List Int) :: Ro.sl (Kd.int .u8) (some ad3902) C8 l6 :: Ro.sl (Kd.int .u8) (some ad3902) C8 l6 :: Ro.sl (Kd.int .u8) (some ad3902) C8 l6 :: rs) := hS.re [7, 8, 8] [] rfl sub_self
                  refine ED.one 2 24 #[true, true, true, true, true, true, true, true, true, true, false, false, false, false, false, false, false, false, false, false, false, false, false, false, false, false, false, false, false, false, false, false, false, false] (by kernel_rfl) (by kernel_rfl) (by kernel_rfl) (EO.callD 16 [.pointer (some ⟨g2306, 0, none⟩), .int .i64 (IntKind.i64.wrap ((IntKind.i64.wrap (Int.tmod a10 8)) + 1))] _ 39 (by kernel_rfl) (by kernel_rfl) (by kernel_rfl) (picks_Picks_Next.calls hc3900 hS) ?_)
                  rintro v w ⟨A3923, C3924, rfl, hS⟩
                  have hC : Core B [Ass.box 89 g2320 [.slice A2322 t2318.length C2323, .func (.func 46) #[.pointer (some ⟨g2321, 0, none⟩)] #[]], Ass.box 103 g2321 [.int .u64 t2319], Ass.own 5 (Kd.int .u8) A2322 C2323 t2318] [Ro.sl (Kd.int .u8) none 0 ([] : List Int), Ro.sl (Kd.int .u8) none 0 ([] : List Int), Ro.sl (Kd.int .u8) (some ad3902) C8 l6, Ro.sl (Kd.int .u8) (some ad3902) C8 l6, Ro.sl (Kd.int .u8) (some ad3902) C8 l6] _ := ⟨_, _, hS.re [5, 5, 5] [] rfl sub_self⟩
                  refine ⟨hC, ?_⟩
                  refine ED.quick hN hF hC [10, 11] [0, 7, 8, 9, 10, 11, 48] 22 [(0, .slice (some ad3902) l6.length C8), (7, .int .i64 (IntKind.i64.wrap ((IntKind.i64.wrap (Int.tmod a10 8)) + 1))), (8, .pointer (some ⟨g2306, 0, none⟩)), (9, .pointer (some ⟨g2313, 0, none⟩)), (10, .pointer (some ⟨g2320, 0, none⟩)), (11, .int .i64 x3574), (48, .bool (!(decide (t3897 = (Int.tmod (IntKind.i64.wrap (l6.getD x3574.toNat 0)) (IntKind.i64.wrap ((IntKind.i64.wrap (Int.tmod a10 8)) + 1)))))))] #[true, true, true, true, true, true, true, true, true, true, true, true, false, false, false, false, false, false, false, false, false, false, false, false, false, false, false, false, false, false, false, false, false, false] (by kernel_rfl) (by kernel_rfl) ?_
                  refine ED.keep [0, 7, 8, 9, 10, 11, 48] [(0, .slice (some ad3902) l6.length C8), (7, .int .i64 (IntKind.i64.wrap ((IntKind.i64.wrap (Int.tmod a10 8)) + 1))), (8, .pointer (some ⟨g2306, 0, none⟩)), (9, .pointer (some ⟨g2313, 0, none⟩)), (10, .pointer (some ⟨g2320, 0, none⟩)), (11, .int .i64 x3574), (48, .bool (!(decide (t3897 = (Int.tmod (IntKind.i64.wrap (l6.getD x3574.toNat 0)) (IntKind.i64.wrap ((IntKind.i64.wrap (Int.tmod a10 8)) + 1)))))))] (by kernel_rfl) ?_
                  refine ED.as' [(0, .slice (some ad3902) l6.length C8), (7, .int .i64 (IntKind.i64.wrap ((IntKind.i64.wrap (Int.tmod a10 8)) + 1))), (8, .pointer (some ⟨g2306, 0, none⟩)), (9, .pointer (some ⟨g2313, 0, none⟩)), (10, .pointer (some ⟨g2320, 0, none⟩)), (11, .int .i64 x3574), (48, .bool (false))] (by simp only [dec_t h3904, Bool.not_true, Bool.not_false]) ?_
                  refine ED.quick hN hF hC [12, 13, 15, 16, 20] [0, 7, 8, 9, 10, 11, 48, 49, 50, 52, 53, 57] 17 [(0, .slice (some ad3902) l6.length C8), (7, .int .i64 (IntKind.i64.wrap ((IntKind.i64.wrap (Int.tmod a10 8)) + 1))), (8, .pointer (some ⟨g2306, 0, none⟩)), (9, .pointer (some ⟨g2313, 0, none⟩)), (10, .pointer (some ⟨g2320, 0, none⟩)), (11, .int .i64 x3574), (48, .bool (false)), (49, .pointer (some ⟨g2313, 0, none⟩)), (50, .int .i64 (IntKind.i64.wrap ((IntKind.i64.wrap (Int.tmod a10 8)) + 1))), (52, .slice (some ad3902) l6.length C8), (53, .int .i64 x3574), (57, .int .i64 (IntKind.i64.wrap ((IntKind.i64.wrap (Int.tmod a10 8)) + 1)))] #[true, true, true, true, true, true, true, true, true, true, true, true, true, true, false, true, true, false, false, false, true, false, false, false, false, false, false, false, false, false, false, false, false, false] (by kernel_rfl) (by kernel_rfl) ?_
                  refine ED.Y hN hF hC 17 16 #[true, true, true, true, true, true, true, true, true, true, true, true, true, true, false, true, true, true, false, false, true, false, false, false, false, false, false, false, false, false, false, false, false, false] (by kernel_rfl) (by kernel_rfl) rfl (fun _ _ _ hS => YO.idx 22 1 ad3902 l6.length C8 .i64 x3574 54 (by kernel_rfl) (by kernel_rfl) (by kernel_rfl) (by kernel_rfl) h3901 h3756) ?_
                  refine ED.Y hN hF hC 18 15 #[true, true, true, true, true, true, true, true, true, true, true, true, true, true, false, true, true, true, true, false, true, false, false, false, false, false, false, false, false, false, false, false, false, false] (by kernel_rfl) (by kernel_rfl) rfl (fun _ _ _ hS => YO.loadEl hS (Kd.int .u8) ad3902 C8 l6 (Rd.ro 2 rfl) 0 (encI .u8) encI_of x3574 h3901 h3756 5 1 0 1 rfl (.int .u8 (l6.getD x3574.toNat 0)) 55 (by kernel_rfl) (by kernel_rfl) (by kernel_rfl) (by kernel_rfl)) ?_
                  refine ED.quick hN hF hC [19] [0, 7, 8, 9, 10, 11, 48, 49, 50, 52, 53, 54, 55, 56, 57] 14 [(0, .slice (some ad3902) l6.length C8), (7, .int .i64 (IntKind.i64.wrap ((IntKind.i64.wrap (Int.tmod a10 8)) + 1))), (8, .pointer (some ⟨g2306, 0, none⟩)), (9, .pointer (some ⟨g2313, 0, none⟩)), (10, .pointer (some ⟨g2320, 0, none⟩)), (11, .int .i64 x3574), (48, .bool (false)), (49, .pointer (some ⟨g2313, 0, none⟩)), (50, .int .i64 (IntKind.i64.wrap ((IntKind.i64.wrap (Int.tmod a10 8)) + 1))), (52, .slice (some ad3902) l6.length C8), (53, .int .i64 x3574), (54, .pointer (some ((ad3902.add (x3574.toNat * 1)).add 0))), (55, .int .u8 (l6.getD x3574.toNat 0)), (56, .int .i64 (IntKind.i64.wrap (l6.getD x3574.toNat 0))), (57, .int .i64 (IntKind.i64.wrap ((IntKind.i64.wrap (Int.tmod a10 8)) + 1)))] #[true, true, true, true, true, true, true, true, true, true, true, true, true, true, false, true, true, true, true, true, true, false, false, false, false, false, false, false, false, false, false, false, false, false] (by kernel_rfl) (by kernel_rfl) ?_
                  refine ED.Y hN hF hC 21 13 #[true, true, true, true, true, true, true, true, true, true, true, true, true, true, false, true, true, true, true, true, true, true, false, false, false, false, false, false, false, false, false, false, false, false] (by kernel_rfl) (by kernel_rfl) rfl (fun _ _ _ hS => YO.div .rem .i64 (IntKind.i64.wrap (l6.getD x3574.toNat 0)) (IntKind.i64.wrap ((IntKind.i64.wrap (Int.tmod a10 8)) + 1)) (Int.tmod (IntKind.i64.wrap (l6.getD x3574.toNat 0)) (IntKind.i64.wrap ((IntKind.i64.wrap (Int.tmod a10 8)) + 1))) 58 (by kernel_rfl) (by kernel_rfl) (by kernel_rfl) h3903 (by first | exact .inl ⟨rfl, rfl⟩ | exact .inr ⟨rfl, rfl⟩)) ?_
                  have hS : St B _ (Ass.box 89 g2313 [.slice A3567 x3566.length C3568, .func (.func 46) #[.pointer (some ⟨g2314, 0, none⟩)] #[]] :: Ass.own 5 (Kd.int .u8) A3567 C3568 x3566 :: Ass.box 103 g2314 [.int .u64 x3569] :: Ass.box 103 g2307 [.int .u64 t3895] :: Ass.box 89 g2306 [.slice A3923 t3896.length C3924, .func (.func 46) #[.pointer (some ⟨g2307, 0, none⟩)] #[]] :: Ass.own 5 (Kd.int .u8) A3923 C3924 t3896 :: Ass.box 89 g2320 [.slice A2322 t2318.length C2323, .func (.func 46) #[.pointer (some ⟨g2321, 0, none⟩)] #[]] :: Ass.box 103 g2321 [.int .u64 t2319] :: Ass.own 5 (Kd.int .u8) A2322 C2323 t2318 :: os) (Ro.sl (Kd.int .u8) none 0 ([] : List Int) :: Ro.sl (Kd.int .u8) none 0 ([] : List Int) :: Ro.sl (Kd.int .u8) (some ad3902) C8 l6 :: Ro.sl (Kd.int .u8) (some ad3902) C8 l6 :: Ro.sl (Kd.int .u8) (some ad3902) C8 l6 :: rs) := hS.re [7, 8, 8] [] rfl sub_self
                  refine ED.one 14 12 #[true, true, true, true, true, true, true, true, true, true, true, true, true, true, true, true, true, true, true, true, true, true, false, false, false, false, false, false, false, false, false, false, false, false] (by kernel_rfl) (by kernel_rfl) (by kernel_rfl) (EO.callD 16 [.pointer (some ⟨g2313, 0, none⟩), .int .i64 (IntKind.i64.wrap ((IntKind.i64.wrap (Int.tmod a10 8)) + 1))] _ 51 (by kernel_rfl) (by kernel_rfl) (by kernel_rfl) (picks_Picks_Next.calls hc3910 hS) ?_)
                  rintro v w ⟨A3926, C3927, rfl, hS⟩
                  have hC : Core B [Ass.box 89 g2320 [.slice A2322 t2318.length C2323, .func (.func 46) #[.pointer (some ⟨g2321, 0, none⟩)] #[]], Ass.box 103 g2321 [.int .u64 t2319], Ass.own 5 (Kd.int .u8) A2322 C2323 t2318] [Ro.sl (Kd.int .u8) none 0 ([] : List Int), Ro.sl (Kd.int .u8) none 0 ([] : List Int), Ro.sl (Kd.int .u8) (some ad3902) C8 l6, Ro.sl (Kd.int .u8) (some ad3902) C8 l6, Ro.sl (Kd.int .u8) (some ad3902) C8 l6] _ := ⟨_, _, hS.re [8, 8, 8] [] rfl sub_self⟩
                  refine ⟨hC, ?_⟩
                  refine ED.quick hN hF hC [22, 23, 24] [0, 7, 8, 9, 10, 11, 49, 50, 51, 52, 53, 54, 55, 56, 57, 58, 59, 61] 9 [(0, .slice (some ad3902) l6.length C8), (7, .int .i64 (IntKind.i64.wrap ((IntKind.i64.wrap (Int.tmod a10 8)) + 1))), (8, .pointer (some ⟨g2306, 0, none⟩)), (9, .pointer (some ⟨g2313, 0, none⟩)), (10, .pointer (some ⟨g2320, 0, none⟩)), (11, .int .i64 x3574), (49, .pointer (some ⟨g2313, 0, none⟩)), (50, .int .i64 (IntKind.i64.wrap ((IntKind.i64.wrap (Int.tmod a10 8)) + 1))), (51, .int .i64 t3907), (52, .slice (some ad3902) l6.length C8), (53, .int .i64 x3574), (54, .pointer (some ((ad3902.add (x3574.toNat * 1)).add 0))), (55, .int .u8 (l6.getD x3574.toNat 0)), (56, .int .i64 (IntKind.i64.wrap (l6.getD x3574.toNat 0))), (57, .int .i64 (IntKind.i64.wrap ((IntKind.i64.wrap (Int.tmod a10 8)) + 1))), (58, .int .i64 (Int.tmod (IntKind.i64.wrap (l6.getD x3574.toNat 0)) (IntKind.i64.wrap ((IntKind.i64.wrap (Int.tmod a10 8)) + 1)))), (59, .bool (!(decide (t3907 = (Int.tmod (IntKind.i64.wrap (l6.getD x3574.toNat 0)) (IntKind.i64.wrap ((IntKind.i64.wrap (Int.tmod a10 8)) + 1))))))), (61, .bool (!(decide (t3907 = (Int.tmod (IntKind.i64.wrap (l6.getD x3574.toNat 0)) (IntKind.i64.wrap ((IntKind.i64.wrap (Int.tmod a10 8)) + 1)))))))] #[true, true, true, true, true, true, true, true, true, true, true, true, true, true, true, true, true, true, true, true, true, true, true, true, true, false, false, false, false, false, false, false, false, false] (by kernel_rfl) (by kernel_rfl) ?_
                  refine ED.keep [0, 7, 8, 9, 10, 11, 49, 50, 51, 52, 53, 54, 55, 56, 57, 58, 59, 61] [(0, .slice (some ad3902) l6.length C8), (7, .int .i64 (IntKind.i64.wrap ((IntKind.i64.wrap (Int.tmod a10 8)) + 1))), (8, .pointer (some ⟨g2306, 0, none⟩)), (9, .pointer (some ⟨g2313, 0, none⟩)), (10, .pointer (some ⟨g2320, 0, none⟩)), (11, .int .i64 x3574), (49, .pointer (some ⟨g2313, 0, none⟩)), (50, .int .i64 (IntKind.i64.wrap ((IntKind.i64.wrap (Int.tmod a10 8)) + 1))), (51, .int .i64 t3907), (52, .slice (some ad3902) l6.length C8), (53, .int .i64 x3574), (54, .pointer (some ((ad3902.add (x3574.toNat * 1)).add 0))), (55, .int .u8 (l6.getD x3574.toNat 0)), (56, .int .i64 (IntKind.i64.wrap (l6.getD x3574.toNat 0))), (57, .int .i64 (IntKind.i64.wrap ((IntKind.i64.wrap (Int.tmod a10 8)) + 1))), (58, .int .i64 (Int.tmod (IntKind.i64.wrap (l6.getD x3574.toNat 0)) (IntKind.i64.wrap ((IntKind.i64.wrap (Int.tmod a10 8)) + 1)))), (59, .bool (!(decide (t3907 = (Int.tmod (IntKind.i64.wrap (l6.getD x3574.toNat 0)) (IntKind.i64.wrap ((IntKind.i64.wrap (Int.tmod a10 8)) + 1))))))), (61, .bool (!(decide (t3907 = (Int.tmod (IntKind.i64.wrap (l6.getD x3574.toNat 0)) (IntKind.i64.wrap ((IntKind.i64.wrap (Int.tmod a10 8)) + 1)))))))] (by kernel_rfl) ?_
                  refine ED.as' [(0, .slice (some ad3902) l6.length C8), (7, .int .i64 (IntKind.i64.wrap ((IntKind.i64.wrap (Int.tmod a10 8)) + 1))), (8, .pointer (some ⟨g2306, 0, none⟩)), (9, .pointer (some ⟨g2313, 0, none⟩)), (10, .pointer (some ⟨g2320, 0, none⟩)), (11, .int .i64 x3574), (49, .pointer (some ⟨g2313, 0, none⟩)), (50, .int .i64 (IntKind.i64.wrap ((IntKind.i64.wrap (Int.tmod a10 8)) + 1))), (51, .int .i64 t3907), (52, .slice (some ad3902) l6.length C8), (53, .int .i64 x3574), (54, .pointer (some ((ad3902.add (x3574.toNat * 1)).add 0))), (55, .int .u8 (l6.getD x3574.toNat 0)), (56, .int .i64 (IntKind.i64.wrap (l6.getD x3574.toNat 0))), (57, .int .i64 (IntKind.i64.wrap ((IntKind.i64.wrap (Int.tmod a10 8)) + 1))), (58, .int .i64 (Int.tmod (IntKind.i64.wrap (l6.getD x3574.toNat 0)) (IntKind.i64.wrap ((IntKind.i64.wrap (Int.tmod a10 8)) + 1)))), (59, .bool (false)), (61, .bool (false))] (by simp only [dec_t h3912, Bool.not_true, Bool.not_false]) ?_
                  refine ED.quick hN hF hC [25, 27, 28, 29, 30, 31] [0, 7, 8, 9, 10, 11, 49, 50, 51, 52, 53, 54, 55, 56, 57, 58, 59, 61, 62, 64, 65, 66, 67, 68] 3 [(0, .slice (some ad3902) l6.length C8), (7, .int .i64 (IntKind.i64.wrap ((IntKind.i64.wrap (Int.tmod a10 8)) + 1))), (8, .pointer (some ⟨g2306, 0, none⟩)), (9, .pointer (some ⟨g2313, 0, none⟩)), (10, .pointer (some ⟨g2320, 0, none⟩)), (11, .int .i64 x3574), (49, .pointer (some ⟨g2313, 0, none⟩)), (50, .int .i64 (IntKind.i64.wrap ((IntKind.i64.wrap (Int.tmod a10 8)) + 1))), (51, .int .i64 t3907), (52, .slice (some ad3902) l6.length C8), (53, .int .i64 x3574), (54, .pointer (some ((ad3902.add (x3574.toNat * 1)).add 0))), (55, .int .u8 (l6.getD x3574.toNat 0)), (56, .int .i64 (IntKind.i64.wrap (l6.getD x3574.toNat 0))), (57, .int .i64 (IntKind.i64.wrap ((IntKind.i64.wrap (Int.tmod a10 8)) + 1))), (58, .int .i64 (Int.tmod (IntKind.i64.wrap (l6.getD x3574.toNat 0)) (IntKind.i64.wrap ((IntKind.i64.wrap (Int.tmod a10 8)) + 1)))), (59, .bool (false)), (61, .bool (false)), (62, .pointer (some ⟨g2306, 0, none⟩)), (64, .slice (some ad3902) l6.length C8), (65, .int .i64 (l6.length : Int)), (66, .int .i64 x3574), (67, .int .i64 (IntKind.i64.wrap ((l6.length : Int) - x3574))), (68, .int .i64 (IntKind.i64.wrap ((IntKind.i64.wrap ((l6.length : Int) - x3574)) - 1)))] #[true, true, true, true, true, true, true, true, true, true, true, true, true, true, true, true, true, true, true, true, true, true, true, true, true, true, false, true, true, true, true, true, false, false] (by kernel_rfl) (by kernel_rfl) ?_
                  have hS : St B _ (Ass.box 89 g2306 [.slice A3923 t3896.length C3924, .func (.func 46) #[.pointer (some ⟨g2307, 0, none⟩)] #[]] :: Ass.own 5 (Kd.int .u8) A3923 C3924 t3896 :: Ass.box 103 g2307 [.int .u64 t3895] :: Ass.box 103 g2314 [.int .u64 t3905] :: Ass.box 89 g2313 [.slice A3926 t3906.length C3927, .func (.func 46) #[.pointer (some ⟨g2314, 0, none⟩)] #[]] :: Ass.own 5 (Kd.int .u8) A3926 C3927 t3906 :: Ass.box 89 g2320 [.slice A2322 t2318.length C2323, .func (.func 46) #[.pointer (some ⟨g2321, 0, none⟩)] #[]] :: Ass.box 103 g2321 [.int .u64 t2319] :: Ass.own 5 (Kd.int .u8) A2322 C2323 t2318 :: os) (Ro.sl (Kd.int .u8) none 0 ([] : List Int) :: Ro.sl (Kd.int .u8) none 0 ([] : List Int) :: Ro.sl (Kd.int .u8) (some ad3902) C8 l6 :: Ro.sl (Kd.int .u8) (some ad3902) C8 l6 :: Ro.sl (Kd.int .u8) (some ad3902) C8 l6 :: rs) := hS.re [3, 5, 5] [] rfl sub_self
                  refine ED.one 26 2 #[true, true, true, true, true, true, true, true, true, true, true, true, true, true, true, true, true, true, true, true, true, true, true, true, true, true, true, true, true, true, true, true, false, false] (by kernel_rfl) (by kernel_rfl) (by kernel_rfl) (EO.callD 18 [.pointer (some ⟨g2306, 0, none⟩)] _ 63 (by kernel_rfl) (by kernel_rfl) (by kernel_rfl) (picks_Picks_Left.calls hc3915 hS) ?_)
                  rintro v w ⟨rfl, hS⟩
                  have hC : Core B [Ass.box 89 g2320 [.slice A2322 t2318.length C2323, .func (.func 46) #[.pointer (some ⟨g2321, 0, none⟩)] #[]], Ass.box 103 g2321 [.int .u64 t2319], Ass.own 5 (Kd.int .u8) A2322 C2323 t2318] [Ro.sl (Kd.int .u8) none 0 ([] : List Int), Ro.sl (Kd.int .u8) none 0 ([] : List Int), Ro.sl (Kd.int .u8) (some ad3902) C8 l6, Ro.sl (Kd.int .u8) (some ad3902) C8 l6, Ro.sl (Kd.int .u8) (some ad3902) C8 l6] _ := ⟨_, _, hS.re [8, 8, 8] [] rfl sub_self⟩
                  refine ⟨hC, ?_⟩
                  refine ED.quick hN hF hC [32, 33] [0, 7, 8, 9, 10, 11, 49, 50, 51, 52, 53, 54, 55, 56, 57, 58, 59, 62, 63, 64, 65, 66, 67, 68, 69, 70] 0 [(0, .slice (some ad3902) l6.length C8), (7, .int .i64 (IntKind.i64.wrap ((IntKind.i64.wrap (Int.tmod a10 8)) + 1))), (8, .pointer (some ⟨g2306, 0, none⟩)), (9, .pointer (some ⟨g2313, 0, none⟩)), (10, .pointer (some ⟨g2320, 0, none⟩)), (11, .int .i64 x3574), (49, .pointer (some ⟨g2313, 0, none⟩)), (50, .int .i64 (IntKind.i64.wrap ((IntKind.i64.wrap (Int.tmod a10 8)) + 1))), (51, .int .i64 t3907), (52, .slice (some ad3902) l6.length C8), (53, .int .i64 x3574), (54, .pointer (some ((ad3902.add (x3574.toNat * 1)).add 0))), (55, .int .u8 (l6.getD x3574.toNat 0)), (56, .int .i64 (IntKind.i64.wrap (l6.getD x3574.toNat 0))), (57, .int .i64 (IntKind.i64.wrap ((IntKind.i64.wrap (Int.tmod a10 8)) + 1))), (58, .int .i64 (Int.tmod (IntKind.i64.wrap (l6.getD x3574.toNat 0)) (IntKind.i64.wrap ((IntKind.i64.wrap (Int.tmod a10 8)) + 1)))), (59, .bool (false)), (62, .pointer (some ⟨g2306, 0, none⟩)), (63, .int .i64 t3914), (64, .slice (some ad3902) l6.length C8), (65, .int .i64 (l6.length : Int)), (66, .int .i64 x3574), (67, .int .i64 (IntKind.i64.wrap ((l6.length : Int) - x3574))), (68, .int .i64 (IntKind.i64.wrap ((IntKind.i64.wrap ((l6.length : Int) - x3574)) - 1))), (69, .bool (!(decide (t3914 = (IntKind.i64.wrap ((IntKind.i64.wrap ((l6.length : Int) - x3574)) - 1)))))), (70, .bool (!(decide (t3914 = (IntKind.i64.wrap ((IntKind.i64.wrap ((l6.length : Int) - x3574)) - 1))))))] #[true, true, true, true, true, true, true, true, true, true, true, true, true, true, true, true, true, true, true, true, true, true, true, true, true, true, true, true, true, true, true, true, true, true] (by kernel_rfl) (by kernel_rfl) ?_
                  refine ED.done (by kernel_rfl) ?_
                  refine EQ.to ?_
                  refine EQ.keep [0, 7, 8, 9, 10, 11, 70] [(0, .slice (some ad3902) l6.length C8), (7, .int .i64 (IntKind.i64.wrap ((IntKind.i64.wrap (Int.tmod a10 8)) + 1))), (8, .pointer (some ⟨g2306, 0, none⟩)), (9, .pointer (some ⟨g2313, 0, none⟩)), (10, .pointer (some ⟨g2320, 0, none⟩)), (11, .int .i64 x3574), (70, .bool (!(decide (t3914 = (IntKind.i64.wrap ((IntKind.i64.wrap ((l6.length : Int) - x3574)) - 1))))))] (by kernel_rfl) ?_
                  exact fun a ha => ⟨t3896, t3913, t3905, t3906, !(decide (t3914 = (IntKind.i64.wrap ((IntKind.i64.wrap ((l6.length : Int) - x3574)) - 1)))), A3923, C3924, A3926, C3927, ha, (hS.re [8, 8, 8, 8, 8, 8, 8, 8, 8] [] rfl (sub_cons 0 rfl (sub_cons 0 rfl (sub_cons 2 rfl (sub_cons 2 rfl (sub_cons 2 rfl (sub_tail (sub_tail (sub_tail (sub_tail (sub_tail (sub_self)))))))))))), H⟩
                · rw [if_neg h3912] at H
                  have hS := hS.drew
                  refine EW.draw (B := B) (id := 10) (ops := Cd4.r.r.r.r.r.l.r.l.l.r.l.l.l.ops) [Ass.box 89 g2320 [.slice A2322 t2318.length C2323, .func (.func 46) #[.pointer (some ⟨g2321, 0, none⟩)] #[]], Ass.box 103 g2321 [.int .u64 t2319], Ass.own 5 (Kd.int .u8) A2322 C2323 t2318] [Ro.sl (Kd.int .u8) none 0 ([] : List Int), Ro.sl (Kd.int .u8) none 0 ([] : List Int), Ro.sl (Kd.int .u8) (some ad3902) C8 l6, Ro.sl (Kd.int .u8) (some ad3902) C8 l6, Ro.sl (Kd.int .u8) (some ad3902) C8 l6] (by kernel_rfl) (by kernel_rfl) ?_
                  have hN : Region.noSelect Cd4.r.r.r.r.r.l.r.l.l.r.l.l.l.ops = true := (by kernel_rfl)
                  have hF : freeAll Cd4.r.r.r.r.r.l.r.l.l.r.l.l.l.ops = true := (by kernel_rfl)
                  have hC : Core B [Ass.box 89 g2320 [.slice A2322 t2318.length C2323, .func (.func 46) #[.pointer (some ⟨g2321, 0, none⟩)] #[]], Ass.box 103 g2321 [.int .u64 t2319], Ass.own 5 (Kd.int .u8) A2322 C2323 t2318] [Ro.sl (Kd.int .u8) none 0 ([] : List Int), Ro.sl (Kd.int .u8) none 0 ([] : List Int), Ro.sl (Kd.int .u8) (some ad3902) C8 l6, Ro.sl (Kd.int .u8) (some ad3902) C8 l6, Ro.sl (Kd.int .u8) (some ad3902) C8 l6] _ := ⟨_, _, hS⟩
                  refine ED.quick hN hF hC [0, 1, 3, 4, 8] [0, 7, 8, 9, 10, 11, 37, 38, 40, 41, 45] 29 [(0, .slice (some ad3902) l6.length C8), (7, .int .i64 (IntKind.i64.wrap ((IntKind.i64.wrap (Int.tmod a10 8)) + 1))), (8, .pointer (some ⟨g2306, 0, none⟩)), (9, .pointer (some ⟨g2313, 0, none⟩)), (10, .pointer (some ⟨g2320, 0, none⟩)), (11, .int .i64 x3574), (37, .pointer (some ⟨g2306, 0, none⟩)), (38, .int .i64 (IntKind.i64.wrap ((IntKind.i64.wrap (Int.tmod a10 8)) + 1))), (40, .slice (some ad3902) l6.length C8), (41, .int .i64 x3574), (45, .int .i64 (IntKind.i64.wrap ((IntKind.i64.wrap (Int.tmod a10 8)) + 1)))] #[true, true, false, true, true, false, false, false, true, false, false, false, false, false, false, false, false, false, false, false, false, false, false, false, false, false, false, false, false, false, false, false, false, false] (by kernel_rfl) (by kernel_rfl) ?_
                  refine ED.Y hN hF hC 5 28 #[true, true, false, true, true, true, false, false, true, false, false, false, false, false, false, false, false, false, false, false, false, false, false, false, false, false, false, false, false, false, false, false, false, false] (by kernel_rfl) (by kernel_rfl) rfl (fun _ _ _ hS => YO.idx 22 1 ad3902 l6.length C8 .i64 x3574 42 (by kernel_rfl) (by kernel_rfl) (by kernel_rfl) (by kernel_rfl) h3901 h3756) ?_
                  refine ED.Y hN hF hC 6 27 #[true, true, false, true, true, true, true, false, true, false, false, false, false, false, false, false, false, false, false, false, false, false, false, false, false, false, false, false, false, false, false, false, false, false] (by kernel_rfl) (by kernel_rfl) rfl (fun _ _ _ hS => YO.loadEl hS (Kd.int .u8) ad3902 C8 l6 (Rd.ro 2 rfl) 0 (encI .u8) encI_of x3574 h3901 h3756 5 1 0 1 rfl (.int .u8 (l6.getD x3574.toNat 0)) 43 (by kernel_rfl) (by kernel_rfl) (by kernel_rfl) (by kernel_rfl)) ?_
                  refine ED.quick hN hF hC [7] [0, 7, 8, 9, 10, 11, 37, 38, 44, 45] 26 [(0, .slice (some ad3902) l6.length C8), (7, .int .i64 (IntKind.i64.wrap ((IntKind.i64.wrap (Int.tmod a10 8)) + 1))), (8, .pointer (some ⟨g2306, 0, none⟩)), (9, .pointer (some ⟨g2313, 0, none⟩)), (10, .pointer (some ⟨g2320, 0, none⟩)), (11, .int .i64 x3574), (37, .pointer (some ⟨g2306, 0, none⟩)), (38, .int .i64 (IntKind.i64.wrap ((IntKind.i64.wrap (Int.tmod a10 8)) + 1))), (44, .int .i64 (IntKind.i64.wrap (l6.getD x3574.toNat 0))), (45, .int .i64 (IntKind.i64.wrap ((IntKind.i64.wrap (Int.tmod a10 8)) + 1)))] #[true, true, false, true, true, true, true, true, true, false, false, false, false, false, false, false, false, false, false, false, false, false, false, false, false, false, false, false, false, false, false, false, false, false] (by kernel_rfl) (by kernel_rfl) ?_
                  refine ED.Y hN hF hC 9 25 #[true, true, false, true, true, true, true, true, true, true, false, false, false, false, false, false, false, false, false, false, false, false, false, false, false, false, false, false, false, false, false, false, false, false] (by kernel_rfl) (by kernel_rfl) rfl (fun _ _ _ hS => YO.div .rem .i64 (IntKind.i64.wrap (l6.getD x3574.toNat 0)) (IntKind.i64.wrap ((IntKind.i64.wrap (Int.tmod a10 8)) + 1)) (Int.tmod (IntKind.i64.wrap (l6.getD x3574.toNat 0)) (IntKind.i64.wrap ((IntKind.i64.wrap (Int.tmod a10 8)) + 1))) 46 (by kernel_rfl) (by kernel_rfl) (by kernel_rfl) h3903 (by first | exact .inl ⟨rfl, rfl⟩ | exact .inr ⟨rfl, rfl⟩)) ?_
                  have hS : St B _ (Ass.box 89 g2306 [.slice A3571 x3570.length C3572, .func (.func 46) #[.pointer (some ⟨g2307, 0, none⟩)] #[]] :: Ass.own 5 (Kd.int .u8) A3571 C3572 x3570 :: Ass.box 103 g2307 [.int .u64 x3573] :: Ass.box 89 g2320 [.slice A2322 t2318.length C2323, .func (.func 46) #[.pointer (some ⟨g2321, 0, none⟩)] #[]] :: Ass.box 103 g2321 [.int .u64 t2319] :: Ass.own 5 (Kd.int .u8) A2322 C2323 t2318 :: Ass.box 89 g2313 [.slice A3567 x3566.length C3568, .func (.func 46) #[.pointer (some ⟨g2314, 0, none⟩)] #[]] :: Ass.box 103 g2314 [.int .u64 x3569] :: Ass.own 5 (Kd.int .u8) A3567 C3568 x3566 :: os) (Ro.sl (Kd.int .u8) none 0 ([] : List Int) :: Ro.sl (Kd.int .u8) none 0 ([] : List Int) :: Ro.sl (Kd.int .u8) (some ad3902) C8 l6 :: Ro.sl (Kd.int .u8) (some ad3902) C8 l6 :: Ro.sl (Kd.int .u8) (some ad3902) C8 l6 :: rs) := hS.re [7, 8, 8] [] rfl sub_self
                  refine ED.one 2 24 #[true, true, true, true, true, true, true, true, true, true, false, false, false, false, false, false, false, false, false, false, false, false, false, false, false, false, false, false, false, false, false, false, false, false] (by kernel_rfl) (by kernel_rfl) (by kernel_rfl) (EO.callD 16 [.pointer (some ⟨g2306, 0, none⟩), .int .i64 (IntKind.i64.wrap ((IntKind.i64.wrap (Int.tmod a10 8)) + 1))] _ 39 (by kernel_rfl) (by kernel_rfl) (by kernel_rfl) (picks_Picks_Next.calls hc3900 hS) ?_)
                  rintro v w ⟨A3935, C3936, rfl, hS⟩
                  have hC : Core B [Ass.box 89 g2320 [.slice A2322 t2318.length C2323, .func (.func 46) #[.pointer (some ⟨g2321, 0, none⟩)] #[]], Ass.box 103 g2321 [.int .u64 t2319], Ass.own 5 (Kd.int .u8) A2322 C2323 t2318] [Ro.sl (Kd.int .u8) none 0 ([] : List Int), Ro.sl (Kd.int .u8) none 0 ([] : List Int), Ro.sl (Kd.int .u8) (some ad3902) C8 l6, Ro.sl (Kd.int .u8) (some ad3902) C8 l6, Ro.sl (Kd.int .u8) (some ad3902) C8 l6] _ := ⟨_, _, hS.re [5, 5, 5] [] rfl sub_self⟩
                  refine ⟨hC, ?_⟩
                  refine ED.quick hN hF hC [10, 11] [0, 7, 8, 9, 10, 11, 48] 22 [(0, .slice (some ad3902) l6.length C8), (7, .int .i64 (IntKind.i64.wrap ((IntKind.i64.wrap (Int.tmod a10 8)) + 1))), (8, .pointer (some ⟨g2306, 0, none⟩)), (9, .pointer (some ⟨g2313, 0, none⟩)), (10, .pointer (some ⟨g2320, 0, none⟩)), (11, .int .i64 x3574), (48, .bool (!(decide (t3897 = (Int.tmod (IntKind.i64.wrap (l6.getD x3574.toNat 0)) (IntKind.i64.wrap ((IntKind.i64.wrap (Int.tmod a10 8)) + 1)))))))] #[true, true, true, true, true, true, true, true, true, true, true, true, false, false, false, false, false, false, false, false, false, false, false, false, false, false, false, false, false, false, false, false, false, false] (by kernel_rfl) (by kernel_rfl) ?_
                  refine ED.keep [0, 7, 8, 9, 10, 11, 48] [(0, .slice (some ad3902) l6.length C8), (7, .int .i64 (IntKind.i64.wrap ((IntKind.i64.wrap (Int.tmod a10 8)) + 1))), (8, .pointer (some ⟨g2306, 0, none⟩)), (9, .pointer (some ⟨g2313, 0, none⟩)), (10, .pointer (some ⟨g2320, 0, none⟩)), (11, .int .i64 x3574), (48, .bool (!(decide (t3897 = (Int.tmod (IntKind.i64.wrap (l6.getD x3574.toNat 0)) (IntKind.i64.wrap ((IntKind.i64.wrap (Int.tmod a10 8)) + 1)))))))] (by kernel_rfl) ?_
                  refine ED.as' [(0, .slice (some ad3902) l6.length C8), (7, .int .i64 (IntKind.i64.wrap ((IntKind.i64.wrap (Int.tmod a10 8)) + 1))), (8, .pointer (some ⟨g2306, 0, none⟩)), (9, .pointer (some ⟨g2313, 0, none⟩)), (10, .pointer (some ⟨g2320, 0, none⟩)), (11, .int .i64 x3574), (48, .bool (false))] (by simp only [dec_t h3904, Bool.not_true, Bool.not_false]) ?_
                  refine ED.quick hN hF hC [12, 13, 15, 16, 20] [0, 7, 8, 9, 10, 11, 48, 49, 50, 52, 53, 57] 17 [(0, .slice (some ad3902) l6.length C8), (7, .int .i64 (IntKind.i64.wrap ((IntKind.i64.wrap (Int.tmod a10 8)) + 1))), (8, .pointer (some ⟨g2306, 0, none⟩)), (9, .pointer (some ⟨g2313, 0, none⟩)), (10, .pointer (some ⟨g2320, 0, none⟩)), (11, .int .i64 x3574), (48, .bool (false)), (49, .pointer (some ⟨g2313, 0, none⟩)), (50, .int .i64 (IntKind.i64.wrap ((IntKind.i64.wrap (Int.tmod a10 8)) + 1))), (52, .slice (some ad3902) l6.length C8), (53, .int .i64 x3574), (57, .int .i64 (IntKind.i64.wrap ((IntKind.i64.wrap (Int.tmod a10 8)) + 1)))] #[true, true, true, true, true, true, true, true, true, true, true, true, true, true, false, true, true, false, false, false, true, false, false, false, false, false, false, false, false, false, false, false, false, false] (by kernel_rfl) (by kernel_rfl) ?_
                  refine ED.Y hN hF hC 17 16 #[true, true, true, true, true, true, true, true, true, true, true, true, true, true, false, true, true, true, false, false, true, false, false, false, false, false, false, false, false, false, false, false, false, false] (by kernel_rfl) (by kernel_rfl) rfl (fun _ _ _ hS => YO.idx 22 1 ad3902 l6.length C8 .i64 x3574 54 (by kernel_rfl) (by kernel_rfl) (by kernel_rfl) (by kernel_rfl) h3901 h3756) ?_
                  refine ED.Y hN hF hC 18 15 #[true, true, true, true, true, true, true, true, true, true, true, true, true, true, false, true, true, true, true, false, true, false, false, false, false, false, false, false, false, false, false, false, false, false] (by kernel_rfl) (by kernel_rfl) rfl (fun _ _ _ hS => YO.loadEl hS (Kd.int .u8) ad3902 C8 l6 (Rd.ro 2 rfl) 0 (encI .u8) encI_of x3574 h3901 h3756 5 1 0 1 rfl (.int .u8 (l6.getD x3574.toNat 0)) 55 (by kernel_rfl) (by kernel_rfl) (by kernel_rfl) (by kernel_rfl)) ?_
                  refine ED.quick hN hF hC [19] [0, 7, 8, 9, 10, 11, 48, 49, 50, 52, 53, 54, 55, 56, 57] 14 [(0, .slice (some ad3902) l6.length C8), (7, .int .i64 (IntKind.i64.wrap ((IntKind.i64.wrap (Int.tmod a10 8)) + 1))), (8, .pointer (some ⟨g2306, 0, none⟩)), (9, .pointer (some ⟨g2313, 0, none⟩)), (10, .pointer (some ⟨g2320, 0, none⟩)), (11, .int .i64 x3574), (48, .bool (false)), (49, .pointer (some ⟨g2313, 0, none⟩)), (50, .int .i64 (IntKind.i64.wrap ((IntKind.i64.wrap (Int.tmod a10 8)) + 1))), (52, .slice (some ad3902) l6.length C8), (53, .int .i64 x3574), (54, .pointer (some ((ad3902.add (x3574.toNat * 1)).add 0))), (55, .int .u8 (l6.getD x3574.toNat 0)), (56, .int .i64 (IntKind.i64.wrap (l6.getD x3574.toNat 0))), (57, .int .i64 (IntKind.i64.wrap ((IntKind.i64.wrap (Int.tmod a10 8)) + 1)))] #[true, true, true, true, true, true, true, true, true, true, true, true, true, true, false, true, true, true, true, true, true, false, false, false, false, false, false, false, false, false, false, false, false, false] (by kernel_rfl) (by kernel_rfl) ?_
                  refine ED.Y hN hF hC 21 13 #[true, true, true, true, true, true, true, true, true, true, true, true, true, true, false, true, true, true, true, true, true, true, false, false, false, false, false, false, false, false, false, false, false, false] (by kernel_rfl) (by kernel_rfl) rfl (fun _ _ _ hS => YO.div .rem .i64 (IntKind.i64.wrap (l6.getD x3574.toNat 0)) (IntKind.i64.wrap ((IntKind.i64.wrap (Int.tmod a10 8)) + 1)) (Int.tmod (IntKind.i64.wrap (l6.getD x3574.toNat 0)) (IntKind.i64.wrap ((IntKind.i64.wrap (Int.tmod a10 8)) + 1))) 58 (by kernel_rfl) (by kernel_rfl) (by kernel_rfl) h3903 (by first | exact .inl ⟨rfl, rfl⟩ | exact .inr ⟨rfl, rfl⟩)) ?_
                  have hS : St B _ (Ass.box 89 g2313 [.slice A3567 x3566.length C3568, .func (.func 46) #[.pointer (some ⟨g2314, 0, none⟩)] #[]] :: Ass.own 5 (Kd.int .u8) A3567 C3568 x3566 :: Ass.box 103 g2314 [.int .u64 x3569] :: Ass.box 103 g2307 [.int .u64 t3895] :: Ass.box 89 g2306 [.slice A3935 t3896.length C3936, .func (.func 46) #[.pointer (some ⟨g2307, 0, none⟩)] #[]] :: Ass.own 5 (Kd.int .u8) A3935 C3936 t3896 :: Ass.box 89 g2320 [.slice A2322 t2318.length C2323, .func (.func 46) #[.pointer (some ⟨g2321, 0, none⟩)] #[]] :: Ass.box 103 g2321 [.int .u64 t2319] :: Ass.own 5 (Kd.int .u8) A2322 C2323 t2318 :: os) (Ro.sl (Kd.int .u8) none 0 ([] : List Int) :: Ro.sl (Kd.int .u8) none 0 ([] : List Int) :: Ro.sl (Kd.int .u8) (some ad3902) C8 l6 :: Ro.sl (Kd.int .u8) (some ad3902) C8 l6 :: Ro.sl (Kd.int .u8) (some ad3902) C8 l6 :: rs) := hS.re [7, 8, 8] [] rfl sub_self
                  refine ED.one 14 12 #[true, true, true, true, true, true, true, true, true, true, true, true, true, true, true, true, true, true, true, true, true, true, false, false, false, false, false, false, false, false, false, false, false, false] (by kernel_rfl) (by kernel_rfl) (by kernel_rfl) (EO.callD 16 [.pointer (some ⟨g2313, 0, none⟩), .int .i64 (IntKind.i64.wrap ((IntKind.i64.wrap (Int.tmod a10 8)) + 1))] _ 51 (by kernel_rfl) (by kernel_rfl) (by kernel_rfl) (picks_Picks_Next.calls hc3910 hS) ?_)
                  rintro v w ⟨A3938, C3939, rfl, hS⟩
                  have hC : Core B [Ass.box 89 g2320 [.slice A2322 t2318.length C2323, .func (.func 46) #[.pointer (some ⟨g2321, 0, none⟩)] #[]], Ass.box 103 g2321 [.int .u64 t2319], Ass.own 5 (Kd.int .u8) A2322 C2323 t2318] [Ro.sl (Kd.int .u8) none 0 ([] : List Int), Ro.sl (Kd.int .u8) none 0 ([] : List Int), Ro.sl (Kd.int .u8) (some ad3902) C8 l6, Ro.sl (Kd.int .u8) (some ad3902) C8 l6, Ro.sl (Kd.int .u8) (some ad3902) C8 l6] _ := ⟨_, _, hS.re [8, 8, 8] [] rfl sub_self⟩
                  refine ⟨hC, ?_⟩
                  refine ED.quick hN hF hC [22, 23, 24] [0, 7, 8, 9, 10, 11, 49, 50, 51, 52, 53, 54, 55, 56, 57, 58, 59, 61] 9 [(0, .slice (some ad3902) l6.length C8), (7, .int .i64 (IntKind.i64.wrap ((IntKind.i64.wrap (Int.tmod a10 8)) + 1))), (8, .pointer (some ⟨g2306, 0, none⟩)), (9, .pointer (some ⟨g2313, 0, none⟩)), (10, .pointer (some ⟨g2320, 0, none⟩)), (11, .int .i64 x3574), (49, .pointer (some ⟨g2313, 0, none⟩)), (50, .int .i64 (IntKind.i64.wrap ((IntKind.i64.wrap (Int.tmod a10 8)) + 1))), (51, .int .i64 t3907), (52, .slice (some ad3902) l6.length C8), (53, .int .i64 x3574), (54, .pointer (some ((ad3902.add (x3574.toNat * 1)).add 0))), (55, .int .u8 (l6.getD x3574.toNat 0)), (56, .int .i64 (IntKind.i64.wrap (l6.getD x3574.toNat 0))), (57, .int .i64 (IntKind.i64.wrap ((IntKind.i64.wrap (Int.tmod a10 8)) + 1))), (58, .int .i64 (Int.tmod (IntKind.i64.wrap (l6.getD x3574.toNat 0)) (IntKind.i64.wrap ((IntKind.i64.wrap (Int.tmod a10 8)) + 1)))), (59, .bool (!(decide (t3907 = (Int.tmod (IntKind.i64.wrap (l6.getD x3574.toNat 0)) (IntKind.i64.wrap ((IntKind.i64.wrap (Int.tmod a10 8)) + 1))))))), (61, .bool (!(decide (t3907 = (Int.tmod (IntKind.i64.wrap (l6.getD x3574.toNat 0)) (IntKind.i64.wrap ((IntKind.i64.wrap (Int.tmod a10 8)) + 1)))))))] #[true, true, true, true, true, true, true, true, true, true, true, true, true, true, true, true, true, true, true, true, true, true, true, true, true, false, false, false, false, false, false, false, false, false] (by kernel_rfl) (by kernel_rfl) ?_
                  refine ED.keep [0, 7, 8, 9, 10, 11, 49, 50, 51, 52, 53, 54, 55, 56, 57, 58, 59, 61] [(0, .slice (some ad3902) l6.length C8), (7, .int .i64 (IntKind.i64.wrap ((IntKind.i64.wrap (Int.tmod a10 8)) + 1))), (8, .pointer (some ⟨g2306, 0, none⟩)), (9, .pointer (some ⟨g2313, 0, none⟩)), (10, .pointer (some ⟨g2320, 0, none⟩)), (11, .int .i64 x3574), (49, .pointer (some ⟨g2313, 0, none⟩)), (50, .int .i64 (IntKind.i64.wrap ((IntKind.i64.wrap (Int.tmod a10 8)) + 1))), (51, .int .i64 t3907), (52, .slice (some ad3902) l6.length C8), (53, .int .i64 x3574), (54, .pointer (some ((ad3902.add (x3574.toNat * 1)).add 0))), (55, .int .u8 (l6.getD x3574.toNat 0)), (56, .int .i64 (IntKind.i64.wrap (l6.getD x3574.toNat 0))), (57, .int .i64 (IntKind.i64.wrap ((IntKind.i64.wrap (Int.tmod a10 8)) + 1))), (58, .int .i64 (Int.tmod (IntKind.i64.wrap (l6.getD x3574.toNat 0)) (IntKind.i64.wrap ((IntKind.i64.wrap (Int.tmod a10 8)) + 1)))), (59, .bool (!(decide (t3907 = (Int.tmod (IntKind.i64.wrap (l6.getD x3574.toNat 0)) (IntKind.i64.wrap ((IntKind.i64.wrap (Int.tmod a10 8)) + 1))))))), (61, .bool (!(decide (t3907 = (Int.tmod (IntKind.i64.wrap (l6.getD x3574.toNat 0)) (IntKind.i64.wrap ((IntKind.i64.wrap (Int.tmod a10 8)) + 1)))))))] (by kernel_rfl) ?_
                  refine ED.as' [(0, .slice (some ad3902) l6.length C8), (7, .int .i64 (IntKind.i64.wrap ((IntKind.i64.wrap (Int.tmod a10 8)) + 1))), (8, .pointer (some ⟨g2306, 0, none⟩)), (9, .pointer (some ⟨g2313, 0, none⟩)), (10, .pointer (some ⟨g2320, 0, none⟩)), (11, .int .i64 x3574), (49, .pointer (some ⟨g2313, 0, none⟩)), (50, .int .i64 (IntKind.i64.wrap ((IntKind.i64.wrap (Int.tmod a10 8)) + 1))), (51, .int .i64 t3907), (52, .slice (some ad3902) l6.length C8), (53, .int .i64 x3574), (54, .pointer (some ((ad3902.add (x3574.toNat * 1)).add 0))), (55, .int .u8 (l6.getD x3574.toNat 0)), (56, .int .i64 (IntKind.i64.wrap (l6.getD x3574.toNat 0))), (57, .int .i64 (IntKind.i64.wrap ((IntKind.i64.wrap (Int.tmod a10 8)) + 1))), (58, .int .i64 (Int.tmod (IntKind.i64.wrap (l6.getD x3574.toNat 0)) (IntKind.i64.wrap ((IntKind.i64.wrap (Int.tmod a10 8)) + 1)))), (59, .bool (true)), (61, .bool (true))] (by simp only [dec_f h3912, Bool.not_true, Bool.not_false]) ?_
                  refine ED.quick hN hF hC [25, 26, 27, 28, 29, 30, 31, 32, 33] [0, 7, 8, 9, 10, 11, 49, 50, 51, 52, 53, 54, 55, 56, 57, 58, 59, 62, 63, 64, 65, 66, 67, 68, 69, 70] 0 [(0, .slice (some ad3902) l6.length C8), (7, .int .i64 (IntKind.i64.wrap ((IntKind.i64.wrap (Int.tmod a10 8)) + 1))), (8, .pointer (some ⟨g2306, 0, none⟩)), (9, .pointer (some ⟨g2313, 0, none⟩)), (10, .pointer (some ⟨g2320, 0, none⟩)), (11, .int .i64 x3574), (49, .pointer (some ⟨g2313, 0, none⟩)), (50, .int .i64 (IntKind.i64.wrap ((IntKind.i64.wrap (Int.tmod a10 8)) + 1))), (51, .int .i64 t3907), (52, .slice (some ad3902) l6.length C8), (53, .int .i64 x3574), (54, .pointer (some ((ad3902.add (x3574.toNat * 1)).add 0))), (55, .int .u8 (l6.getD x3574.toNat 0)), (56, .int .i64 (IntKind.i64.wrap (l6.getD x3574.toNat 0))), (57, .int .i64 (IntKind.i64.wrap ((IntKind.i64.wrap (Int.tmod a10 8)) + 1))), (58, .int .i64 (Int.tmod (IntKind.i64.wrap (l6.getD x3574.toNat 0)) (IntKind.i64.wrap ((IntKind.i64.wrap (Int.tmod a10 8)) + 1)))), (59, .bool (true)), (62, undef), (63, undef), (64, undef), (65, undef), (66, undef), (67, undef), (68, undef), (69, undef), (70, .bool (true))] #[true, true, true, true, true, true, true, true, true, true, true, true, true, true, true, true, true, true, true, true, true, true, true, true, true, true, true, true, true, true, true, true, true, true] (by kernel_rfl) (by kernel_rfl) ?_
                  refine ED.done (by kernel_rfl) ?_
                  refine EQ.to ?_
                  refine EQ.keep [0, 7, 8, 9, 10, 11, 70] [(0, .slice (some ad3902) l6.length C8), (7, .int .i64 (IntKind.i64.wrap ((IntKind.i64.wrap (Int.tmod a10 8)) + 1))), (8, .pointer (some ⟨g2306, 0, none⟩)), (9, .pointer (some ⟨g2313, 0, none⟩)), (10, .pointer (some ⟨g2320, 0, none⟩)), (11, .int .i64 x3574), (70, .bool (true))] (by kernel_rfl) ?_
                  exact fun a ha => ⟨t3896, t3895, t3905, t3906, true, A3935, C3936, A3938, C3939, ha, (hS.re [8, 8, 8, 5, 5, 5, 6, 8, 8] [] rfl (sub_cons 0 rfl (sub_cons 0 rfl (sub_cons 2 rfl (sub_cons 2 rfl (sub_cons 2 rfl (sub_tail (sub_tail (sub_tail (sub_tail (sub_tail (sub_self)))))))))))), H⟩
              · rw [if_neg h3904] at H
                have hS := hS.drew
                refine EW.draw (B := B) (id := 10) (ops := Cd4.r.r.r.r.r.l.r.l.l.r.l.l.l.ops) [Ass.box 89 g2320 [.slice A2322 t2318.length C2323, .func (.func 46) #[.pointer (some ⟨g2321, 0, none⟩)] #[]], Ass.box 103 g2321 [.int .u64 t2319], Ass.own 5 (Kd.int .u8) A2322 C2323 t2318, Ass.box 89 g2313 [.slice A3567 x3566.length C3568, .func (.func 46) #[.pointer (some ⟨g2314, 0, none⟩)] #[]], Ass.box 103 g2314 [.int .u64 x3569], Ass.own 5 (Kd.int .u8) A3567 C3568 x3566] [Ro.sl (Kd.int .u8) none 0 ([] : List Int), Ro.sl (Kd.int .u8) none 0 ([] : List Int), Ro.sl (Kd.int .u8) (some ad3902) C8 l6, Ro.sl (Kd.int .u8) (some ad3902) C8 l6, Ro.sl (Kd.int .u8) (some ad3902) C8 l6] (by kernel_rfl) (by kernel_rfl) ?_
                have hN : Region.noSelect Cd4.r.r.r.r.r.l.r.l.l.r.l.l.l.ops = true := (by kernel_rfl)
                have hF : freeAll Cd4.r.r.r.r.r.l.r.l.l.r.l.l.l.ops = true := (by kernel_rfl)
                have hC : Core B [Ass.box 89 g2320 [.slice A2322 t2318.length C2323, .func (.func 46) #[.pointer (some ⟨g2321, 0, none⟩)] #[]], Ass.box 103 g2321 [.int .u64 t2319], Ass.own 5 (Kd.int .u8) A2322 C2323 t2318, Ass.box 89 g2313 [.slice A3567 x3566.length C3568, .func (.func 46) #[.pointer (some ⟨g2314, 0, none⟩)] #[]], Ass.box 103 g2314 [.int .u64 x3569], Ass.own 5 (Kd.int .u8) A3567 C3568 x3566] [Ro.sl (Kd.int .u8) none 0 ([] : List Int), Ro.sl (Kd.int .u8) none 0 ([] : List Int), Ro.sl (Kd.int .u8) (some ad3902) C8 l6, Ro.sl (Kd.int .u8) (some ad3902) C8 l6, Ro.sl (Kd.int .u8) (some ad3902) C8 l6] _ := ⟨_, _, hS⟩
                refine ED.quick hN hF hC [0, 1, 3, 4, 8] [0, 7, 8, 9, 10, 11, 37, 38, 40, 41, 45] 29 [(0, .slice (some ad3902) l6.length C8), (7, .int .i64 (IntKind.i64.wrap ((IntKind.i64.wrap (Int.tmod a10 8)) + 1))), (8, .pointer (some ⟨g2306, 0, none⟩)), (9, .pointer (some ⟨g2313, 0, none⟩)), (10, .pointer (some ⟨g2320, 0, none⟩)), (11, .int .i64 x3574), (37, .pointer (some ⟨g2306, 0, none⟩)), (38, .int .i64 (IntKind.i64.wrap ((IntKind.i64.wrap (Int.tmod a10 8)) + 1))), (40, .slice (some ad3902) l6.length C8), (41, .int .i64 x3574), (45, .int .i64 (IntKind.i64.wrap ((IntKind.i64.wrap (Int.tmod a10 8)) + 1)))] #[true, true, false, true, true, false, false, false, true, false, false, false, false, false, false, false, false, false, false, false, false, false, false, false, false, false, false, false, false, false, false, false, false, false] (by kernel_rfl) (by kernel_rfl) ?_
                refine ED.Y hN hF hC 5 28 #[true, true, false, true, true, true, false, false, true, false, false, false, false, false, false, false, false, false, false, false, false, false, false, false, false, false, false, false, false, false, false, false, false, false] (by kernel_rfl) (by kernel_rfl) rfl (fun _ _ _ hS => YO.idx 22 1 ad3902 l6.length C8 .i64 x3574 42 (by kernel_rfl) (by kernel_rfl) (by kernel_rfl) (by kernel_rfl) h3901 h3756) ?_
                refine ED.Y hN hF hC 6 27 #[true, true, false, true, true, true, true, false, true, false, false, false, false, false, false, false, false, false, false, false, false, false, false, false, false, false, false, false, false, false, false, false, false, false] (by kernel_rfl) (by kernel_rfl) rfl (fun _ _ _ hS => YO.loadEl hS (Kd.int .u8) ad3902 C8 l6 (Rd.ro 2 rfl) 0 (encI .u8) encI_of x3574 h3901 h3756 5 1 0 1 rfl (.int .u8 (l6.getD x3574.toNat 0)) 43 (by kernel_rfl) (by kernel_rfl) (by kernel_rfl) (by kernel_rfl)) ?_
                refine ED.quick hN hF hC [7] [0, 7, 8, 9, 10, 11, 37, 38, 44, 45] 26 [(0, .slice (some ad3902) l6.length C8), (7, .int .i64 (IntKind.i64.wrap ((IntKind.i64.wrap (Int.tmod a10 8)) + 1))), (8, .pointer (some ⟨g2306, 0, none⟩)), (9, .pointer (some ⟨g2313, 0, none⟩)), (10, .pointer (some ⟨g2320, 0, none⟩)), (11, .int .i64 x3574), (37, .pointer (some ⟨g2306, 0, none⟩)), (38, .int .i64 (IntKind.i64.wrap ((IntKind.i64.wrap (Int.tmod a10 8)) + 1))), (44, .int .i64 (IntKind.i64.wrap (l6.getD x3574.toNat 0))), (45, .int .i64 (IntKind.i64.wrap ((IntKind.i64.wrap (Int.tmod a10 8)) + 1)))] #[true, true, false, true, true, true, true, true, true, false, false, false, false, false, false, false, false, false, false, false, false, false, false, false, false, false, false, false, false, false, false, false, false, false] (by kernel_rfl) (by kernel_rfl) ?_
                refine ED.Y hN hF hC 9 25 #[true, true, false, true, true, true, true, true, true, true, false, false, false, false, false, false, false, false, false, false, false, false, false, false, false, false, false, false, false, false, false, false, false, false] (by kernel_rfl) (by kernel_rfl) rfl (fun _ _ _ hS => YO.div .rem .i64 (IntKind.i64.wrap (l6.getD x3574.toNat 0)) (IntKind.i64.wrap ((IntKind.i64.wrap (Int.tmod a10 8)) + 1)) (Int.tmod (IntKind.i64.wrap (l6.getD x3574.toNat 0)) (IntKind.i64.wrap ((IntKind.i64.wrap (Int.tmod a10 8)) + 1))) 46 (by kernel_rfl) (by kernel_rfl) (by kernel_rfl) h3903 (by first | exact .inl ⟨rfl, rfl⟩ | exact .inr ⟨rfl, rfl⟩)) ?_
                have hS : St B _ (Ass.box 89 g2306 [.slice A3571 x3570.length C3572, .func (.func 46) #[.pointer (some ⟨g2307, 0, none⟩)] #[]] :: Ass.own 5 (Kd.int .u8) A3571 C3572 x3570 :: Ass.box 103 g2307 [.int .u64 x3573] :: Ass.box 89 g2320 [.slice A2322 t2318.length C2323, .func (.func 46) #[.pointer (some ⟨g2321, 0, none⟩)] #[]] :: Ass.box 103 g2321 [.int .u64 t2319] :: Ass.own 5 (Kd.int .u8) A2322 C2323 t2318 :: Ass.box 89 g2313 [.slice A3567 x3566.length C3568, .func (.func 46) #[.pointer (some ⟨g2314, 0, none⟩)] #[]] :: Ass.box 103 g2314 [.int .u64 x3569] :: Ass.own 5 (Kd.int .u8) A3567 C3568 x3566 :: os) (Ro.sl (Kd.int .u8) none 0 ([] : List Int) :: Ro.sl (Kd.int .u8) none 0 ([] : List Int) :: Ro.sl (Kd.int .u8) (some ad3902) C8 l6 :: Ro.sl (Kd.int .u8) (some ad3902) C8 l6 :: Ro.sl (Kd.int .u8) (some ad3902) C8 l6 :: rs) := hS.re [7, 8, 8] [] rfl sub_self
                refine ED.one 2 24 #[true, true, true, true, true, true, true, true, true, true, false, false, false, false, false, false, false, false, false, false, false, false, false, false, false, false, false, false, false, false, false, false, false, false] (by kernel_rfl) (by kernel_rfl) (by kernel_rfl) (EO.callD 16 [.pointer (some ⟨g2306, 0, none⟩), .int .i64 (IntKind.i64.wrap ((IntKind.i64.wrap (Int.tmod a10 8)) + 1))] _ 39 (by kernel_rfl) (by kernel_rfl) (by kernel_rfl) (picks_Picks_Next.calls hc3900 hS) ?_)
                rintro v w ⟨A3944, C3945, rfl, hS⟩
                have hC : Core B [Ass.box 89 g2320 [.slice A2322 t2318.length C2323, .func (.func 46) #[.pointer (some ⟨g2321, 0, none⟩)] #[]], Ass.box 103 g2321 [.int .u64 t2319], Ass.own 5 (Kd.int .u8) A2322 C2323 t2318, Ass.box 89 g2313 [.slice A3567 x3566.length C3568, .func (.func 46) #[.pointer (some ⟨g2314, 0, none⟩)] #[]], Ass.box 103 g2314 [.int .u64 x3569], Ass.own 5 (Kd.int .u8) A3567 C3568 x3566] [Ro.sl (Kd.int .u8) none 0 ([] : List Int), Ro.sl (Kd.int .u8) none 0 ([] : List Int), Ro.sl (Kd.int .u8) (some ad3902) C8 l6, Ro.sl (Kd.int .u8) (some ad3902) C8 l6, Ro.sl (Kd.int .u8) (some ad3902) C8 l6] _ := ⟨_, _, hS.re [8, 8, 8, 8, 8, 8] [] rfl sub_self⟩
                refine ⟨hC, ?_⟩
                refine ED.quick hN hF hC [10, 11] [0, 7, 8, 9, 10, 11, 48] 22 [(0, .slice (some ad3902) l6.length C8), (7, .int .i64 (IntKind.i64.wrap ((IntKind.i64.wrap (Int.tmod a10 8)) + 1))), (8, .pointer (some ⟨g2306, 0, none⟩)), (9, .pointer (some ⟨g2313, 0, none⟩)), (10, .pointer (some ⟨g2320, 0, none⟩)), (11, .int .i64 x3574), (48, .bool (!(decide (t3897 = (Int.tmod (IntKind.i64.wrap (l6.getD x3574.toNat 0)) (IntKind.i64.wrap ((IntKind.i64.wrap (Int.tmod a10 8)) + 1)))))))] #[true, true, true, true, true, true, true, true, true, true, true, true, false, false, false, false, false, false, false, false, false, false, false, false, false, false, false, false, false, false, false, false, false, false] (by kernel_rfl) (by kernel_rfl) ?_
                refine ED.keep [0, 7, 8, 9, 10, 11, 48] [(0, .slice (some ad3902) l6.length C8), (7, .int .i64 (IntKind.i64.wrap ((IntKind.i64.wrap (Int.tmod a10 8)) + 1))), (8, .pointer (some ⟨g2306, 0, none⟩)), (9, .pointer (some ⟨g2313, 0, none⟩)), (10, .pointer (some ⟨g2320, 0, none⟩)), (11, .int .i64 x3574), (48, .bool (!(decide (t3897 = (Int.tmod (IntKind.i64.wrap (l6.getD x3574.toNat 0)) (IntKind.i64.wrap ((IntKind.i64.wrap (Int.tmod a10 8)) + 1)))))))] (by kernel_rfl) ?_
                refine ED.as' [(0, .slice (some ad3902) l6.length C8), (7, .int .i64 (IntKind.i64.wrap ((IntKind.i64.wrap (Int.tmod a10 8)) + 1))), (8, .pointer (some ⟨g2306, 0, none⟩)), (9, .pointer (some ⟨g2313, 0, none⟩)), (10, .pointer (some ⟨g2320, 0, none⟩)), (11, .int .i64 x3574), (48, .bool (true))] (by simp only [dec_f h3904, Bool.not_true, Bool.not_false]) ?_
                refine ED.quick hN hF hC [12, 13, 14, 15, 16, 17, 18, 19, 20, 21, 22, 23, 24, 25, 26, 27, 28, 29, 30, 31, 32, 33] [0, 7, 8, 9, 10, 11, 49, 50, 51, 52, 53, 54, 55, 56, 57, 58, 59, 62, 63, 64, 65, 66, 67, 68, 69, 70] 0 [(0, .slice (some ad3902) l6.length C8), (7, .int .i64 (IntKind.i64.wrap ((IntKind.i64.wrap (Int.tmod a10 8)) + 1))), (8, .pointer (some ⟨g2306, 0, none⟩)), (9, .pointer (some ⟨g2313, 0, none⟩)), (10, .pointer (some ⟨g2320, 0, none⟩)), (11, .int .i64 x3574), (49, undef), (50, undef), (51, undef), (52, undef), (53, undef), (54, undef), (55, undef), (56, undef), (57, undef), (58, undef), (59, undef), (62, undef), (63, undef), (64, undef), (65, undef), (66, undef), (67, undef), (68, undef), (69, undef), (70, .bool (true))] #[true, true, true, true, true, true, true, true, true, true, true, true, true, true, true, true, true, true, true, true, true, true, true, true, true, true, true, true, true, true, true, true, true, true] (by kernel_rfl) (by kernel_rfl) ?_
                refine ED.done (by kernel_rfl) ?_
                refine EQ.to ?_
                refine EQ.keep [0, 7, 8, 9, 10, 11, 70] [(0, .slice (some ad3902) l6.length C8), (7, .int .i64 (IntKind.i64.wrap ((IntKind.i64.wrap (Int.tmod a10 8)) + 1))), (8, .pointer (some ⟨g2306, 0, none⟩)), (9, .pointer (some ⟨g2313, 0, none⟩)), (10, .pointer (some ⟨g2320, 0, none⟩)), (11, .int .i64 x3574), (70, .bool (true))] (by kernel_rfl) ?_
                exact fun a ha => ⟨t3896, t3895, x3569, x3566, true, A3944, C3945, A3567, C3568, ha, (hS.re [5, 5, 5, 8, 7, 8, 6, 8, 8] [] rfl (sub_cons 0 rfl (sub_cons 0 rfl (sub_cons 2 rfl (sub_cons 2 rfl (sub_cons 2 rfl (sub_tail (sub_tail (sub_tail (sub_tail (sub_tail (sub_self)))))))))))), H⟩
            · obtain ⟨x3885, x3888, x3889, x3890, x3893, A3886, C3887, A3891, C3892, ha, hS, H⟩ := hI
              rw [hj3894] at H
              (try dsimp only at H)
              refine EW.at ?_ a ha
              clear ha a
              refine EW.condP' (o := (.tmp 70)) (x := Cd4.r.r.r.r.r.l.r.l.l.r.l.l.r.l) (y := Cd4.r.r.r.r.r.l.r.l.l.r.l.l.r.r) (x3893) (by kernel_rfl) (by kernel_rfl) (fun h3946 => ?_) (fun h3946 => ?_)
              · rw [if_pos h3946] at H
                refine EW.seq (x := Cd4.r.r.r.r.r.l.r.l.l.r.l.l.r.l.l) (y := Cd4.r.r.r.r.r.l.r.l.l.r.l.l.r.l.r) (by kernel_rfl) ?_
                refine EW.region (id := 11) (ops := Cd4.r.r.r.r.r.l.r.l.l.r.l.l.r.l.l.ops) (by kernel_rfl) ?_
                refine EL.quick 1 [6] [(6, .bool (false))] (by kernel_rfl) ?_
                refine EL.done (by kernel_rfl) ?_
                refine EQ.code ?_
                refine EW.ret (by kernel_rfl) ?_
                refine EQ.ret ?_
                refine EQ.ret ?_
                refine EQ.ret ?_
                refine EQ.ret ?_
                refine EQ.ret ?_
                obtain rfl := Option.some.inj H
                exact EQ.leave (.bool (false)) (by kernel_rfl) ⟨_, rfl, rfl, (hS.re [] [0, 0, 0, 0, 0, 0, 0, 0, 0] rfl (sub_tail (sub_tail (sub_tail (sub_tail (sub_self))))))⟩
              · rw [if_neg h3946] at H
                refine EW.skip (by kernel_rfl) ?_
                refine EQ.pop ?_
                refine EQ.code ?_
                refine EW.region (id := 9) (ops := Cd4.r.r.r.r.r.l.r.l.l.r.r.ops) (by kernel_rfl) ?_
                refine EL.quick 3 [0, 7, 8, 9, 10, 11] [(0, .slice A7 l6.length C8), (7, .int .i64 (IntKind.i64.wrap ((IntKind.i64.wrap (Int.tmod a10 8)) + 1))), (8, .pointer (some ⟨g2306, 0, none⟩)), (9, .pointer (some ⟨g2313, 0, none⟩)), (10, .pointer (some ⟨g2320, 0, none⟩)), (11, .int .i64 (IntKind.i64.wrap (x3574 + 1)))] (by kernel_rfl) ?_
                refine EL.done (by kernel_rfl) ?_
                refine EQ.to ?_
                refine EQ.keep [0, 7, 8, 9, 10, 11] [(0, .slice A7 l6.length C8), (7, .int .i64 (IntKind.i64.wrap ((IntKind.i64.wrap (Int.tmod a10 8)) + 1))), (8, .pointer (some ⟨g2306, 0, none⟩)), (9, .pointer (some ⟨g2313, 0, none⟩)), (10, .pointer (some ⟨g2320, 0, none⟩)), (11, .int .i64 (IntKind.i64.wrap (x3574 + 1)))] (by kernel_rfl) ?_
                exact fun a ha => ⟨n, Nat.lt_succ_self n, x3890, x3889, x3885, x3888, IntKind.i64.wrap (x3574 + 1), A3891, C3892, A3886, C3887, ha, (hS.re [1, 2, 2, 5, 4, 5, 8, 8, 8] [] rfl (sub_cons 0 rfl (sub_cons 0 rfl (sub_cons 2 rfl (sub_cons 2 rfl (sub_cons 2 rfl (sub_tail (sub_tail (sub_tail (sub_tail (sub_tail (sub_self)))))))))))), H⟩
          · rw [if_neg h3756] at H
            refine EW.exit (id := 0) (by kernel_rfl) ?_
            refine EQ.exitCode ?_
            refine EQ.exitTo ?_
            refine EQ.exitHere ?_
            refine EQ.to ?_
            refine EQ.keep [7, 8, 9, 10] [(7, .int .i64 (IntKind.i64.wrap ((IntKind.i64.wrap (Int.tmod a10 8)) + 1))), (8, .pointer (some ⟨g2306, 0, none⟩)), (9, .pointer (some ⟨g2313, 0, none⟩)), (10, .pointer (some ⟨g2320, 0, none⟩))] (by kernel_rfl) ?_
            exact fun a ha => ⟨x3566, x3569, x3570, x3573, A3567, C3568, A3571, C3572, ha, (hS.re [8, 8, 8, 8, 8, 8, 8, 8, 8] [] rfl (sub_cons 0 rfl (sub_cons 0 rfl (sub_cons 2 rfl (sub_cons 2 rfl (sub_cons 2 rfl (sub_tail (sub_tail (sub_tail (sub_tail (sub_tail (sub_self)))))))))))), H⟩
      · obtain ⟨x3383, x3386, x3387, x3390, A3384, C3385, A3388, C3389, ha, hS, H⟩ := hI
        rw [hj3391] at H
        (try dsimp only at H)
        refine EW.at ?_ a ha
        clear ha a
        obtain ⟨j4353, hj4353, H⟩ := lt_out H
        refine EW.cut (x := Cd4.r.r.r.r.r.r.l) (y := Cd4.r.r.r.r.r.r.r) (fun a w => ∃ x4345 : List Int, ∃ x4348 : Int, ∃ x4349 : List Int, ∃ x4352 : Int, ∃ A4346 : Option Addr, ∃ C4347 : Nat, ∃ A4350 : Option Addr, ∃ C4351 : Nat, Sat 90 [(8, .pointer (some ⟨g2306, 0, none⟩)), (9, .pointer (some ⟨g2313, 0, none⟩))] a ∧ St B w (Ass.box 89 g2320 [.slice A4346 x4345.length C4347, .func (.func 46) #[.pointer (some ⟨g2321, 0, none⟩)] #[]] :: Ass.box 103 g2321 [.int .u64 x4348] :: Ass.own 5 (Kd.int .u8) A4346 C4347 x4345 :: Ass.box 89 g2313 [.slice A3384 x3383.length C3385, .func (.func 46) #[.pointer (some ⟨g2314, 0, none⟩)] #[]] :: Ass.box 103 g2314 [.int .u64 x3386] :: Ass.own 5 (Kd.int .u8) A3384 C3385 x3383 :: Ass.box 89 g2306 [.slice A4350 x4349.length C4351, .func (.func 46) #[.pointer (some ⟨g2307, 0, none⟩)] #[]] :: Ass.box 103 g2307 [.int .u64 x4352] :: Ass.own 5 (Kd.int .u8) A4350 C4351 x4349 :: os) (Ro.sl (Kd.int .u8) none 0 ([] : List Int) :: Ro.sl (Kd.int .u8) none 0 ([] : List Int) :: Ro.sl (Kd.int .u8) A7 C8 l6 :: Ro.sl (Kd.int .u8) A7 C8 l6 :: Ro.sl (Kd.int .u8) A7 C8 l6 :: rs) ∧ j4353 x4345 x4348 x4349 x4352 = some x2270) (by kernel_rfl) ?_ (fun a w hI => ?_)
        · refine EW.seq (x := Cd4.r.r.r.r.r.r.l.l) (y := Cd4.r.r.r.r.r.r.l.r) (by kernel_rfl) ?_
          refine EW.region (id := 12) (ops := Cd4.r.r.r.r.r.r.l.l.ops) (by kernel_rfl) ?_
          refine EL.quick 1 [7, 8, 9, 10, 12] [(7, .int .i64 (IntKind.i64.wrap ((IntKind.i64.wrap (Int.tmod a10 8)) + 1))), (8, .pointer (some ⟨g2306, 0, none⟩)), (9, .pointer (some ⟨g2313, 0, none⟩)), (10, .pointer (some ⟨g2320, 0, none⟩)), (12, .int .i64 0)] (by kernel_rfl) ?_
          refine EL.done (by kernel_rfl) ?_
          refine EQ.code ?_
          refine EW.block (x := Cd4.r.r.r.r.r.r.l.r.l) (id := 2) (by kernel_rfl) ?_
          refine EW.loop (x := Cd4.r.r.r.r.r.r.l.r.l.l) (fun n a w => ∃ x4422 : List Int, ∃ x4425 : Int, ∃ x4426 : List Int, ∃ x4429 : Int, ∃ x4430 : Int, ∃ A4423 : Option Addr, ∃ C4424 : Nat, ∃ A4427 : Option Addr, ∃ C4428 : Nat, Sat 90 [(7, .int .i64 (IntKind.i64.wrap ((IntKind.i64.wrap (Int.tmod a10 8)) + 1))), (8, .pointer (some ⟨g2306, 0, none⟩)), (9, .pointer (some ⟨g2313, 0, none⟩)), (10, .pointer (some ⟨g2320, 0, none⟩)), (12, .int .i64 x4430)] a ∧ St B w (Ass.box 89 g2320 [.slice A4423 x4422.length C4424, .func (.func 46) #[.pointer (some ⟨g2321, 0, none⟩)] #[]] :: Ass.box 103 g2321 [.int .u64 x4425] :: Ass.own 5 (Kd.int .u8) A4423 C4424 x4422 :: Ass.box 89 g2313 [.slice A3384 x3383.length C3385, .func (.func 46) #[.pointer (some ⟨g2314, 0, none⟩)] #[]] :: Ass.box 103 g2314 [.int .u64 x3386] :: Ass.own 5 (Kd.int .u8) A3384 C3385 x3383 :: Ass.box 89 g2306 [.slice A4427 x4426.length C4428, .func (.func 46) #[.pointer (some ⟨g2307, 0, none⟩)] #[]] :: Ass.box 103 g2307 [.int .u64 x4429] :: Ass.own 5 (Kd.int .u8) A4427 C4428 x4426 :: os) (Ro.sl (Kd.int .u8) none 0 ([] : List Int) :: Ro.sl (Kd.int .u8) none 0 ([] : List Int) :: Ro.sl (Kd.int .u8) A7 C8 l6 :: Ro.sl (Kd.int .u8) A7 C8 l6 :: Ro.sl (Kd.int .u8) A7 C8 l6 :: rs) ∧ confidantlaw17_PicksFirst.l1 K a10 j4353 n x4422 x4425 x4426 x4429 x4430 = some x2270) K (by kernel_rfl) ?_ (fun n a w hI => ?_)
          · refine EQ.keep [7, 8, 9, 10, 12] [(7, .int .i64 (IntKind.i64.wrap ((IntKind.i64.wrap (Int.tmod a10 8)) + 1))), (8, .pointer (some ⟨g2306, 0, none⟩)), (9, .pointer (some ⟨g2313, 0, none⟩)), (10, .pointer (some ⟨g2320, 0, none⟩)), (12, .int .i64 0)] (by kernel_rfl) ?_
            exact fun a ha => ⟨t2318, t2319, x3387, x3390, 0, A2322, C2323, A3388, C3389, ha, (hS.re [8, 8, 8, 8, 8, 8, 8, 8, 8] [] rfl (sub_cons 0 rfl (sub_cons 0 rfl (sub_cons 2 rfl (sub_cons 2 rfl (sub_cons 2 rfl (sub_tail (sub_tail (sub_tail (sub_tail (sub_tail (sub_self)))))))))))), H⟩
          · obtain ⟨x4422, x4425, x4426, x4429, x4430, A4423, C4424, A4427, C4428, ha, hS, H⟩ := hI
            obtain _ | n := n
            · simp [confidantlaw17_PicksFirst.l1] at H
            rw [confidantlaw17_PicksFirst.l1.eq_2] at H
            refine EW.at ?_ a ha
            clear ha a
            refine EW.seq (x := Cd4.r.r.r.r.r.r.l.r.l.l.l) (y := Cd4.r.r.r.r.r.r.l.r.l.l.r) (by kernel_rfl) ?_
            refine EW.seq (x := Cd4.r.r.r.r.r.r.l.r.l.l.l.l) (y := Cd4.r.r.r.r.r.r.l.r.l.l.l.r) (by kernel_rfl) ?_
            refine EW.region (id := 13) (ops := Cd4.r.r.r.r.r.r.l.r.l.l.l.l.ops) (by kernel_rfl) ?_
            refine EL.quick 2 [7, 8, 9, 10, 12, 72] [(7, .int .i64 (IntKind.i64.wrap ((IntKind.i64.wrap (Int.tmod a10 8)) + 1))), (8, .pointer (some ⟨g2306, 0, none⟩)), (9, .pointer (some ⟨g2313, 0, none⟩)), (10, .pointer (some ⟨g2320, 0, none⟩)), (12, .int .i64 x4430), (72, .bool (decide (x4430 < 20)))] (by kernel_rfl) ?_
            refine EL.done (by kernel_rfl) ?_
            refine EQ.code ?_
            refine EW.condP (o := (.tmp 72)) (x := Cd4.r.r.r.r.r.r.l.r.l.l.l.r.l) (y := Cd4.r.r.r.r.r.r.l.r.l.l.l.r.r) (x4430 < 20) (by kernel_rfl) (by kernel_rfl) (fun h4502 => ?_) (fun h4502 => ?_)
            · rw [if_pos h4502] at H
              refine EW.skip (by kernel_rfl) ?_
              refine EQ.code ?_
              refine EW.seq (x := Cd4.r.r.r.r.r.r.l.r.l.l.r.l) (y := Cd4.r.r.r.r.r.r.l.r.l.l.r.r) (by kernel_rfl) ?_
              refine EW.block (x := Cd4.r.r.r.r.r.r.l.r.l.l.r.l.l) (id := 3) (by kernel_rfl) ?_
              refine EW.seq (x := Cd4.r.r.r.r.r.r.l.r.l.l.r.l.l.l) (y := Cd4.r.r.r.r.r.r.l.r.l.l.r.l.l.r) (by kernel_rfl) ?_
              refine EW.region (id := 15) (ops := Cd4.r.r.r.r.r.r.l.r.l.l.r.l.l.l.ops) (by kernel_rfl) ?_
              refine EL.quick 2 [7, 8, 9, 10, 12, 75, 76] [(7, .int .i64 (IntKind.i64.wrap ((IntKind.i64.wrap (Int.tmod a10 8)) + 1))), (8, .pointer (some ⟨g2306, 0, none⟩)), (9, .pointer (some ⟨g2313, 0, none⟩)), (10, .pointer (some ⟨g2320, 0, none⟩)), (12, .int .i64 x4430), (75, .pointer (some ⟨g2306, 0, none⟩)), (76, .int .i64 (IntKind.i64.wrap ((IntKind.i64.wrap (Int.tmod a10 8)) + 1)))] (by kernel_rfl) ?_
              have hS : St B _ (Ass.box 89 g2306 [.slice A4427 x4426.length C4428, .func (.func 46) #[.pointer (some ⟨g2307, 0, none⟩)] #[]] :: Ass.own 5 (Kd.int .u8) A4427 C4428 x4426 :: Ass.box 103 g2307 [.int .u64 x4429] :: Ass.box 89 g2320 [.slice A4423 x4422.length C4424, .func (.func 46) #[.pointer (some ⟨g2321, 0, none⟩)] #[]] :: Ass.box 103 g2321 [.int .u64 x4425] :: Ass.own 5 (Kd.int .u8) A4423 C4424 x4422 :: Ass.box 89 g2313 [.slice A3384 x3383.length C3385, .func (.func 46) #[.pointer (some ⟨g2314, 0, none⟩)] #[]] :: Ass.box 103 g2314 [.int .u64 x3386] :: Ass.own 5 (Kd.int .u8) A3384 C3385 x3383 :: os) (Ro.sl (Kd.int .u8) none 0 ([] : List Int) :: Ro.sl (Kd.int .u8) none 0 ([] : List Int) :: Ro.sl (Kd.int .u8) A7 C8 l6 :: Ro.sl (Kd.int .u8) A7 C8 l6 :: Ro.sl (Kd.int .u8) A7 C8 l6 :: rs) := hS.re [7, 8, 8] [] rfl sub_self
              obtain ⟨t4540, t4541, t4542, hc4545, H⟩ := b3_out H
              refine EL.of (EO.callD 16 [.pointer (some ⟨g2306, 0, none⟩), .int .i64 (IntKind.i64.wrap ((IntKind.i64.wrap (Int.tmod a10 8)) + 1))] _ 77 (by kernel_rfl) (by kernel_rfl) (by kernel_rfl) (picks_Picks_Next.calls hc4545 hS) ?_)
              rintro v w ⟨A4543, C4544, rfl, hS⟩
              refine EL.quick 2 [7, 8, 9, 10, 12, 77, 78, 79] [(7, .int .i64 (IntKind.i64.wrap ((IntKind.i64.wrap (Int.tmod a10 8)) + 1))), (8, .pointer (some ⟨g2306, 0, none⟩)), (9, .pointer (some ⟨g2313, 0, none⟩)), (10, .pointer (some ⟨g2320, 0, none⟩)), (12, .int .i64 x4430), (77, .int .i64 t4542), (78, .pointer (some ⟨g2320, 0, none⟩)), (79, .int .i64 (IntKind.i64.wrap ((IntKind.i64.wrap (Int.tmod a10 8)) + 1)))] (by kernel_rfl) ?_
              have hS : St B _ (Ass.box 89 g2320 [.slice A4423 x4422.length C4424, .func (.func 46) #[.pointer (some ⟨g2321, 0, none⟩)] #[]] :: Ass.own 5 (Kd.int .u8) A4423 C4424 x4422 :: Ass.box 103 g2321 [.int .u64 x4425] :: Ass.box 103 g2307 [.int .u64 t4540] :: Ass.box 89 g2306 [.slice A4543 t4541.length C4544, .func (.func 46) #[.pointer (some ⟨g2307, 0, none⟩)] #[]] :: Ass.own 5 (Kd.int .u8) A4543 C4544 t4541 :: Ass.box 89 g2313 [.slice A3384 x3383.length C3385, .func (.func 46) #[.pointer (some ⟨g2314, 0, none⟩)] #[]] :: Ass.box 103 g2314 [.int .u64 x3386] :: Ass.own 5 (Kd.int .u8) A3384 C3385 x3383 :: os) (Ro.sl (Kd.int .u8) none 0 ([] : List Int) :: Ro.sl (Kd.int .u8) none 0 ([] : List Int) :: Ro.sl (Kd.int .u8) A7 C8 l6 :: Ro.sl (Kd.int .u8) A7 C8 l6 :: Ro.sl (Kd.int .u8) A7 C8 l6 :: rs) := hS.re [4, 5, 5] [] rfl sub_self
              obtain ⟨t4546, t4547, t4548, hc4551, H⟩ := b3_out H
              refine EL.of (EO.callD 16 [.pointer (some ⟨g2320, 0, none⟩), .int .i64 (IntKind.i64.wrap ((IntKind.i64.wrap (Int.tmod a10 8)) + 1))] _ 80 (by kernel_rfl) (by kernel_rfl) (by kernel_rfl) (picks_Picks_Next.calls hc4551 hS) ?_)
              rintro v w ⟨A4549, C4550, rfl, hS⟩
              refine EL.quick 1 [7, 8, 9, 10, 12, 81] [(7, .int .i64 (IntKind.i64.wrap ((IntKind.i64.wrap (Int.tmod a10 8)) + 1))), (8, .pointer (some ⟨g2306, 0, none⟩)), (9, .pointer (some ⟨g2313, 0, none⟩)), (10, .pointer (some ⟨g2320, 0, none⟩)), (12, .int .i64 x4430), (81, .bool (!(decide (t4542 = t4548))))] (by kernel_rfl) ?_
              refine EL.done (by kernel_rfl) ?_
              refine EQ.code ?_
              refine EW.condQ (b := !(decide (t4542 = t4548))) (o := (.tmp 81)) (x := Cd4.r.r.r.r.r.r.l.r.l.l.r.l.l.r.l) (y := Cd4.r.r.r.r.r.r.l.r.l.l.r.l.l.r.r) (t4542 = t4548) (false) (by kernel_rfl) (by kernel_rfl) ⟨fun h => (by rw [decide_eq_true h] <;> rfl), fun h => (by rw [decide_eq_false h] <;> rfl)⟩ (fun h4552 => ?_) (fun h4552 => ?_)
              · rw [if_pos h4552] at H
                refine EW.skip (by kernel_rfl) ?_
                refine EQ.pop ?_
                refine EQ.code ?_
                refine EW.region (id := 14) (ops := Cd4.r.r.r.r.r.r.l.r.l.l.r.r.ops) (by kernel_rfl) ?_
                refine EL.quick 3 [7, 8, 9, 10, 12] [(7, .int .i64 (IntKind.i64.wrap ((IntKind.i64.wrap (Int.tmod a10 8)) + 1))), (8, .pointer (some ⟨g2306, 0, none⟩)), (9, .pointer (some ⟨g2313, 0, none⟩)), (10, .pointer (some ⟨g2320, 0, none⟩)), (12, .int .i64 (IntKind.i64.wrap (x4430 + 1)))] (by kernel_rfl) ?_
                refine EL.done (by kernel_rfl) ?_
                refine EQ.to ?_
                refine EQ.keep [7, 8, 9, 10, 12] [(7, .int .i64 (IntKind.i64.wrap ((IntKind.i64.wrap (Int.tmod a10 8)) + 1))), (8, .pointer (some ⟨g2306, 0, none⟩)), (9, .pointer (some ⟨g2313, 0, none⟩)), (10, .pointer (some ⟨g2320, 0, none⟩)), (12, .int .i64 (IntKind.i64.wrap (x4430 + 1)))] (by kernel_rfl) ?_
                exact fun a ha => ⟨n, Nat.lt_succ_self n, t4547, t4546, t4541, t4540, IntKind.i64.wrap (x4430 + 1), A4549, C4550, A4543, C4544, ha, (hS.re [5, 4, 5, 8, 8, 8, 8, 7, 8] [] rfl (sub_cons 0 rfl (sub_cons 0 rfl (sub_cons 2 rfl (sub_cons 2 rfl (sub_cons 2 rfl (sub_tail (sub_tail (sub_tail (sub_tail (sub_tail (sub_self)))))))))))), H⟩
              · rw [if_neg h4552] at H
                refine EW.seq (x := Cd4.r.r.r.r.r.r.l.r.l.l.r.l.l.r.l.l) (y := Cd4.r.r.r.r.r.r.l.r.l.l.r.l.l.r.l.r) (by kernel_rfl) ?_
                refine EW.region (id := 16) (ops := Cd4.r.r.r.r.r.r.l.r.l.l.r.l.l.r.l.l.ops) (by kernel_rfl) ?_
                refine EL.quick 1 [6] [(6, .bool (false))] (by kernel_rfl) ?_
                refine EL.done (by kernel_rfl) ?_
                refine EQ.code ?_
                refine EW.ret (by kernel_rfl) ?_
                refine EQ.ret ?_
                refine EQ.ret ?_
                refine EQ.ret ?_
                refine EQ.ret ?_
                refine EQ.ret ?_
                obtain rfl := Option.some.inj H
                exact EQ.leave (.bool (false)) (by kernel_rfl) ⟨_, rfl, rfl, (hS.re [] [0, 0, 0, 0, 0, 0, 0, 0, 0] rfl (sub_tail (sub_tail (sub_tail (sub_tail (sub_self))))))⟩
            · rw [if_neg h4502] at H
              refine EW.exit (id := 2) (by kernel_rfl) ?_
              refine EQ.exitCode ?_
              refine EQ.exitTo ?_
              refine EQ.exitHere ?_
              refine EQ.to ?_
              refine EQ.keep [8, 9] [(8, .pointer (some ⟨g2306, 0, none⟩)), (9, .pointer (some ⟨g2313, 0, none⟩))] (by kernel_rfl) ?_
              exact fun a ha => ⟨x4422, x4425, x4426, x4429, A4423, C4424, A4427, C4428, ha, (hS.re [8, 8, 8, 8, 8, 8, 8, 8, 8] [] rfl (sub_cons 0 rfl (sub_cons 0 rfl (sub_cons 2 rfl (sub_cons 2 rfl (sub_cons 2 rfl (sub_tail (sub_tail (sub_tail (sub_tail (sub_tail (sub_self)))))))))))), H⟩
        · obtain ⟨x4345, x4348, x4349, x4352, A4346, C4347, A4350, C4351, ha, hS, H⟩ := hI
          rw [hj4353] at H
          (try dsimp only at H)
          refine EW.at ?_ a ha
          clear ha a
          refine EW.seq (x := Cd4.r.r.r.r.r.r.r.l) (y := Cd4.r.r.r.r.r.r.r.r) (by kernel_rfl) ?_
          refine EW.region (id := 17) (ops := Cd4.r.r.r.r.r.r.r.l.ops) (by kernel_rfl) ?_
          refine EL.quick 1 [9, 82] [(9, .pointer (some ⟨g2313, 0, none⟩)), (82, .pointer (some ⟨g2306, 0, none⟩))] (by kernel_rfl) ?_
          have hS : St B _ (Ass.box 89 g2306 [.slice A4350 x4349.length C4351, .func (.func 46) #[.pointer (some ⟨g2307, 0, none⟩)] #[]] :: Ass.own 5 (Kd.int .u8) A4350 C4351 x4349 :: Ass.box 103 g2307 [.int .u64 x4352] :: Ass.box 89 g2320 [.slice A4346 x4345.length C4347, .func (.func 46) #[.pointer (some ⟨g2321, 0, none⟩)] #[]] :: Ass.box 103 g2321 [.int .u64 x4348] :: Ass.own 5 (Kd.int .u8) A4346 C4347 x4345 :: Ass.box 89 g2313 [.slice A3384 x3383.length C3385, .func (.func 46) #[.pointer (some ⟨g2314, 0, none⟩)] #[]] :: Ass.box 103 g2314 [.int .u64 x3386] :: Ass.own 5 (Kd.int .u8) A3384 C3385 x3383 :: os) (Ro.sl (Kd.int .u8) none 0 ([] : List Int) :: Ro.sl (Kd.int .u8) none 0 ([] : List Int) :: Ro.sl (Kd.int .u8) A7 C8 l6 :: Ro.sl (Kd.int .u8) A7 C8 l6 :: Ro.sl (Kd.int .u8) A7 C8 l6 :: rs) := hS.re [7, 8, 8] [] rfl sub_self
          obtain ⟨t4553, t4554, hc4555, H⟩ := b2_out H
          refine EL.of (EO.callD 18 [.pointer (some ⟨g2306, 0, none⟩)] _ 83 (by kernel_rfl) (by kernel_rfl) (by kernel_rfl) (picks_Picks_Left.calls hc4555 hS) ?_)
          rintro v w ⟨rfl, hS⟩
          refine EL.quick 2 [9, 85] [(9, .pointer (some ⟨g2313, 0, none⟩)), (85, .bool (decide (t4554 = 0)))] (by kernel_rfl) ?_
          by_cases h4556 : t4554 = 0
          · rw [if_pos h4556] at H
            refine EL.keep [9, 85] [(9, .pointer (some ⟨g2313, 0, none⟩)), (85, .bool (decide (t4554 = 0)))] (by kernel_rfl) ?_
            refine EL.as' [(9, .pointer (some ⟨g2313, 0, none⟩)), (85, .bool (true))] (by simp only [dec_t h4556, Bool.not_true, Bool.not_false]) ?_
            refine EL.quick 1 [85, 86] [(85, .bool (true)), (86, .pointer (some ⟨g2313, 0, none⟩))] (by kernel_rfl) ?_
            have hS : St B _ (Ass.box 89 g2313 [.slice A3384 x3383.length C3385, .func (.func 46) #[.pointer (some ⟨g2314, 0, none⟩)] #[]] :: Ass.own 5 (Kd.int .u8) A3384 C3385 x3383 :: Ass.box 103 g2314 [.int .u64 x3386] :: Ass.box 89 g2306 [.slice A4350 x4349.length C4351, .func (.func 46) #[.pointer (some ⟨g2307, 0, none⟩)] #[]] :: Ass.own 5 (Kd.int .u8) A4350 C4351 x4349 :: Ass.box 103 g2307 [.int .u64 t4553] :: Ass.box 89 g2320 [.slice A4346 x4345.length C4347, .func (.func 46) #[.pointer (some ⟨g2321, 0, none⟩)] #[]] :: Ass.box 103 g2321 [.int .u64 x4348] :: Ass.own 5 (Kd.int .u8) A4346 C4347 x4345 :: os) (Ro.sl (Kd.int .u8) none 0 ([] : List Int) :: Ro.sl (Kd.int .u8) none 0 ([] : List Int) :: Ro.sl (Kd.int .u8) A7 C8 l6 :: Ro.sl (Kd.int .u8) A7 C8 l6 :: Ro.sl (Kd.int .u8) A7 C8 l6 :: rs) := hS.re [7, 8, 8] [] rfl sub_self
            obtain ⟨t4557, t4558, hc4559, H⟩ := b2_out H
            refine EL.of (EO.callD 18 [.pointer (some ⟨g2313, 0, none⟩)] _ 87 (by kernel_rfl) (by kernel_rfl) (by kernel_rfl) (picks_Picks_Left.calls hc4559 hS) ?_)
            rintro v w ⟨rfl, hS⟩
            refine EL.quick 3 [6] [(6, .bool (decide (t4558 = 0)))] (by kernel_rfl) ?_
            refine EL.done (by kernel_rfl) ?_
            refine EQ.code ?_
            refine EW.ret (by kernel_rfl) ?_
            obtain rfl := Option.some.inj H
            exact EQ.leave (.bool (decide (t4558 = 0))) (by kernel_rfl) ⟨_, rfl, rfl, (hS.re [] [0, 0, 0, 0, 0, 0, 0, 0, 0] rfl (sub_tail (sub_tail (sub_tail (sub_tail (sub_self))))))⟩
          · rw [if_neg h4556] at H
            refine EL.keep [9, 85] [(9, .pointer (some ⟨g2313, 0, none⟩)), (85, .bool (decide (t4554 = 0)))] (by kernel_rfl) ?_
            refine EL.as' [(9, .pointer (some ⟨g2313, 0, none⟩)), (85, .bool (false))] (by simp only [dec_f h4556, Bool.not_true, Bool.not_false]) ?_
            refine EL.quick 5 [6] [(6, .bool (false))] (by kernel_rfl) ?_
            refine EL.done (by kernel_rfl) ?_
            refine EQ.code ?_
            refine EW.ret (by kernel_rfl) ?_
            obtain rfl := Option.some.inj H
            exact EQ.leave (.bool (false)) (by kernel_rfl) ⟨_, rfl, rfl, (hS.re [] [0, 0, 0, 0, 0, 0, 0, 0, 0] rfl (sub_tail (sub_tail (sub_tail (sub_tail (sub_self))))))⟩
  · rw [if_neg h2280] at H
    refine EW.seq (x := Cd4.r.l.r.l.l) (y := Cd4.r.l.r.l.r) (by kernel_rfl) ?_
    refine EW.region (id := 2) (ops := Cd4.r.l.r.l.l.ops) (by kernel_rfl) ?_
    refine EL.quick 1 [6] [(6, .bool (false))] (by kernel_rfl) ?_
    refine EL.done (by kernel_rfl) ?_
    refine EQ.code ?_
    refine EW.ret (by kernel_rfl) ?_
    refine EQ.ret ?_
    obtain rfl := Option.some.inj H
    exact EQ.leave (.bool (false)) (by kernel_rfl) ⟨_, rfl, rfl, (hS.re [] [] rfl (sub_self))⟩

def confidantlaw17_PicksFirst.Pure : Prop := ∀ (l6 : List Int) (a9 : Int) (a10 : Int), l6.length * 1 ≤ 140737488351232 → (∀ x ∈ l6, (Lit.int .u8 x).wf = true) → (Lit.int .u64 a9).wf = true → (Lit.int .u8 a10).wf = true → ∃ K, confidantlaw17_PicksFirst.f K l6 a9 a10 = some true

noncomputable def Cd8 : Code := bodyOf Try.f8

noncomputable def Cd19 : Code := bodyOf Try.f19

noncomputable def Cd20 : Code := bodyOf Try.f20

noncomputable def Cd22 : Code := bodyOf Try.f22

noncomputable def Cd24 : Code := bodyOf Try.f24

noncomputable def Cd25 : Code := bodyOf Try.f25

noncomputable def Cd26 : Code := bodyOf Try.f26

noncomputable def Cd28 : Code := bodyOf Try.f28

noncomputable def Cd30 : Code := bodyOf Try.f30

noncomputable def Cd31 : Code := bodyOf Try.f31

noncomputable def Cd48 : Code := bodyOf Try.f48

/-! ### confidant/pack.Put: function 22 -/
def pack_Put.l2 (K : Nat) (l9 : List Int) (x5819 : Int) (j7458 : (List Int) → Option (List Int)) : Nat → (List Int) → Int → Option (List Int)
  | 0, _, _ => none
  | n + 1, x7483, x7486 => if x7486 > 0 then (if (IntKind.i64.wrap (7 * x7486)) < 0 then none else (lt ([bO .u8 (IntKind.u8.wrap (sR .u64 (l9.getD x5819.toNat 0) (IntKind.i64.wrap (7 * x7486)))) 128] : List Int) fun l7522 => (if (x7483.length + l7522.length) * 1 ≤ 140737488355328 then (lt (x7483 ++ l7522) fun l7524 => (pack_Put.l2 K l9 x5819 j7458 n l7524 (IntKind.i64.wrap (x7486 - 1)))) else none))) else (j7458 x7483)
def pack_Put.l1 (K : Nat) (l9 : List Int) (x5819 : Int) (j7296 : Int → Option (List Int)) : Nat → Int → Option (List Int)
  | 0, _ => none
  | n + 1, x7301 => if (IntKind.i64.wrap (7 * (IntKind.i64.wrap (x7301 + 1)))) < 0 then none else (if (sR .u64 (l9.getD x5819.toNat 0) (IntKind.i64.wrap (7 * (IntKind.i64.wrap (x7301 + 1))))) = 0 then (j7296 x7301) else (pack_Put.l1 K l9 x5819 j7296 n (IntKind.i64.wrap (x7301 + 1))))
def pack_Put.l0 (K : Nat) (l9 : List Int) : Nat → (List Int) → Int → Option (List Int)
  | 0, _, _ => none
  | n + 1, x5815, x5819 => if x5819 < (l9.length : Int) then (lt (fun (x7245 : List Int) (x7248 : List Int) => (pack_Put.l0 K l9 n x7248 (IntKind.i64.wrap (x5819 + 1)))) fun j7251 => (if 0 ≤ x5819 then (lt (fun (x7295 : Int) => (lt (fun (x7455 : List Int) => (lt ([bN .u8 (IntKind.u8.wrap (l9.getD x5819.toNat 0)) 128] : List Int) fun l7528 => (if (x7455.length + l7528.length) * 1 ≤ 140737488355328 then (lt (x7455 ++ l7528) fun l7530 => (j7251 l7528 l7530)) else none))) fun j7458 => (pack_Put.l2 K l9 x5819 j7458 K x5815 x7295))) fun j7296 => (pack_Put.l1 K l9 x5819 j7296 K 0)) else none)) else (some x5815)
def pack_Put.f (K : Nat) (l9 : List Int) : Option (List Int) := pack_Put.l0 K l9 K ([] : List Int) 0
set_option maxRecDepth 100000 in
theorem pack_Put.calls {K : Nat} {l9 : List Int} {A10 : Option Addr} {C11 : Nat} {x3770 : List Int} {B w : World} {os : List Ass} {rs : List Ro} (H : pack_Put.f K l9 = some x3770) (hS : St B w (os) (Ro.sl (Kd.int .u64) A10 C11 l9 :: rs)) :
    Calls Try.prog 22 [.slice A10 l9.length C11].toArray w (fun en w' => ∃ v, en = .returned v ∧ ∃ A3771 : Option Addr, ∃ C3772 : Nat, v = .slice A3771 x3770.length C3772 ∧ St B w' (Ass.own 5 (Kd.int .u8) A3771 C3772 x3770 :: os) (Ro.sl (Kd.int .u64) A10 C11 l9 :: rs)) := by
  unfold pack_Put.f at H
  refine calls_of_EW (args := [.slice A10 l9.length C11]) (c := Cd22) 42 Try.func22 (by kernel_rfl) (by kernel_rfl) (by kernel_rfl) ?_
  refine EW.seq (x := Cd22.l) (y := Cd22.r) (by kernel_rfl) ?_
  refine EW.region (id := 0) (ops := Cd22.l.ops) (by kernel_rfl) ?_
  refine EL.quick 1 [0] [(0, .slice A10 l9.length C11)] (by kernel_rfl) ?_
  refine EL.done (by kernel_rfl) ?_
  refine EQ.code ?_
  refine EW.seq (x := Cd22.r.l) (y := Cd22.r.r) (by kernel_rfl) ?_
  refine EW.region (id := 1) (ops := Cd22.r.l.ops) (by kernel_rfl) ?_
  refine EL.quick 1 [0, 3] [(0, .slice A10 l9.length C11), (3, .slice none ([] : List Int).length 0)] (by kernel_rfl) ?_
  refine EL.done (by kernel_rfl) ?_
  refine EQ.code ?_
  refine EW.seq (x := Cd22.r.r.l) (y := Cd22.r.r.r) (by kernel_rfl) ?_
  refine EW.seq (x := Cd22.r.r.l.l) (y := Cd22.r.r.l.r) (by kernel_rfl) ?_
  refine EW.region (id := 2) (ops := Cd22.r.r.l.l.ops) (by kernel_rfl) ?_
  refine EL.quick 3 [3, 7, 8, 9] [(3, .slice none ([] : List Int).length 0), (7, .slice A10 l9.length C11), (8, .int .i64 (l9.length : Int)), (9, .int .i64 0)] (by kernel_rfl) ?_
  refine EL.done (by kernel_rfl) ?_
  refine EQ.code ?_
  refine EW.block (x := Cd22.r.r.l.r.l) (id := 0) (by kernel_rfl) ?_
  have hS := St.nilO hS 5 (Kd.int .u8)
  refine EW.loop (x := Cd22.r.r.l.r.l.l) (fun n a w => ∃ x5815 : List Int, ∃ x5819 : Int, ∃ A5816 : Option Addr, ∃ C5817 : Nat, Sat 42 [(3, .slice A5816 x5815.length C5817), (7, .slice A10 l9.length C11), (8, .int .i64 (l9.length : Int)), (9, .int .i64 x5819)] a ∧ St B w (Ass.own 5 (Kd.int .u8) A5816 C5817 x5815 :: os) (Ro.sl (Kd.int .u64) A10 C11 l9 :: rs) ∧ pack_Put.l0 K l9 n x5815 x5819 = some x3770) K (by kernel_rfl) ?_ (fun n a w hI => ?_)
  · refine EQ.keep [3, 7, 8, 9] [(3, .slice none ([] : List Int).length 0), (7, .slice A10 l9.length C11), (8, .int .i64 (l9.length : Int)), (9, .int .i64 0)] (by kernel_rfl) ?_
    exact fun a ha => ⟨([] : List Int), 0, none, 0, ha, (hS.re [0] [] rfl (sub_cons 0 rfl (sub_tail (sub_self)))), H⟩
  · obtain ⟨x5815, x5819, A5816, C5817, ha, hS, H⟩ := hI
    obtain _ | n := n
    · simp [pack_Put.l0] at H
    rw [pack_Put.l0.eq_2] at H
    refine EW.at ?_ a ha
    clear ha a
    refine EW.seq (x := Cd22.r.r.l.r.l.l.l) (y := Cd22.r.r.l.r.l.l.r) (by kernel_rfl) ?_
    refine EW.region (id := 3) (ops := Cd22.r.r.l.r.l.l.l.ops) (by kernel_rfl) ?_
    refine EL.quick 1 [3, 7, 8, 9, 10] [(3, .slice A5816 x5815.length C5817), (7, .slice A10 l9.length C11), (8, .int .i64 (l9.length : Int)), (9, .int .i64 x5819), (10, .bool (decide (x5819 < (l9.length : Int))))] (by kernel_rfl) ?_
    refine EL.done (by kernel_rfl) ?_
    refine EQ.code ?_
    refine EW.seq (x := Cd22.r.r.l.r.l.l.r.l) (y := Cd22.r.r.l.r.l.l.r.r) (by kernel_rfl) ?_
    refine EW.condP (o := (.tmp 10)) (x := Cd22.r.r.l.r.l.l.r.l.l) (y := Cd22.r.r.l.r.l.l.r.l.r) (x5819 < (l9.length : Int)) (by kernel_rfl) (by kernel_rfl) (fun h6682 => ?_) (fun h6682 => ?_)
    · rw [if_pos h6682] at H
      refine EW.skip (by kernel_rfl) ?_
      refine EQ.code ?_
      obtain ⟨j7251, hj7251, H⟩ := lt_out H
      refine EW.cut (x := Cd22.r.r.l.r.l.l.r.r.l) (y := Cd22.r.r.l.r.l.l.r.r.r) (fun a w => ∃ x7245 : List Int, ∃ x7248 : List Int, ∃ A7246 : Option Addr, ∃ C7247 : Nat, ∃ A7249 : Option Addr, ∃ C7250 : Nat, Sat 42 [(3, .slice A7249 x7248.length C7250), (7, .slice A10 l9.length C11), (8, .int .i64 (l9.length : Int)), (9, .int .i64 x5819)] a ∧ St B w (Ass.own 5 (Kd.int .u8) A7246 C7247 x7245 :: Ass.own 5 (Kd.int .u8) A7249 C7250 x7248 :: os) (Ro.sl (Kd.int .u64) A10 C11 l9 :: rs) ∧ j7251 x7245 x7248 = some x3770) (by kernel_rfl) ?_ (fun a w hI => ?_)
      · refine EW.block (x := Cd22.r.r.l.r.l.l.r.r.l.l) (id := 1) (by kernel_rfl) ?_
        refine EW.seq (x := Cd22.r.r.l.r.l.l.r.r.l.l.l) (y := Cd22.r.r.l.r.l.l.r.r.l.l.r) (by kernel_rfl) ?_
        refine EW.region (id := 4) (ops := Cd22.r.r.l.r.l.l.r.r.l.l.l.ops) (by kernel_rfl) ?_
        obtain ⟨h7254, H⟩ := ite_in H
        obtain ⟨ad7255, rfl⟩ := St.rd_some hS (Rd.ro 0 rfl) h7254 h6682
        refine EL.of (EO.Y (YO.idx 36 1 ad7255 l9.length C11 .i64 x5819 11 (by kernel_rfl) (by kernel_rfl) (by kernel_rfl) (by kernel_rfl) h7254 h6682) ?_)
        refine EL.of (EO.Y (YO.loadEl hS (Kd.int .u64) ad7255 C11 l9 (Rd.ro 0 rfl) 0 (encI .u64) encI_of x5819 h7254 h6682 23 1 0 1 rfl (.int .u64 (l9.getD x5819.toNat 0)) 12 (by kernel_rfl) (by kernel_rfl) (by kernel_rfl) (by kernel_rfl)) ?_)
        refine EL.quick 1 [3, 5, 7, 8, 9] [(3, .slice A5816 x5815.length C5817), (5, .int .u64 (l9.getD x5819.toNat 0)), (7, .slice (some ad7255) l9.length C11), (8, .int .i64 (l9.length : Int)), (9, .int .i64 x5819)] (by kernel_rfl) ?_
        refine EL.done (by kernel_rfl) ?_
        refine EQ.code ?_
        refine EW.seq (x := Cd22.r.r.l.r.l.l.r.r.l.l.r.l) (y := Cd22.r.r.l.r.l.l.r.r.l.l.r.r) (by kernel_rfl) ?_
        refine EW.region (id := 5) (ops := Cd22.r.r.l.r.l.l.r.r.l.l.r.l.ops) (by kernel_rfl) ?_
        refine EL.quick 1 [3, 5, 6, 7, 8, 9] [(3, .slice A5816 x5815.length C5817), (5, .int .u64 (l9.getD x5819.toNat 0)), (6, .int .i64 0), (7, .slice (some ad7255) l9.length C11), (8, .int .i64 (l9.length : Int)), (9, .int .i64 x5819)] (by kernel_rfl) ?_
        refine EL.done (by kernel_rfl) ?_
        refine EQ.code ?_
        obtain ⟨j7296, hj7296, H⟩ := lt_out H
        refine EW.cut (x := Cd22.r.r.l.r.l.l.r.r.l.l.r.r.l) (y := Cd22.r.r.l.r.l.l.r.r.l.l.r.r.r) (fun a w => ∃ x7295 : Int, Sat 42 [(3, .slice A5816 x5815.length C5817), (5, .int .u64 (l9.getD x5819.toNat 0)), (6, .int .i64 x7295), (7, .slice (some ad7255) l9.length C11), (8, .int .i64 (l9.length : Int)), (9, .int .i64 x5819)] a ∧ St B w (Ass.own 5 (Kd.int .u8) A5816 C5817 x5815 :: os) (Ro.sl (Kd.int .u64) (some ad7255) C11 l9 :: rs) ∧ j7296 x7295 = some x3770) (by kernel_rfl) ?_ (fun a w hI => ?_)
        · refine EW.block (x := Cd22.r.r.l.r.l.l.r.r.l.l.r.r.l.l) (id := 2) (by kernel_rfl) ?_
          refine EW.loop (x := Cd22.r.r.l.r.l.l.r.r.l.l.r.r.l.l.l) (fun n a w => ∃ x7301 : Int, Sat 42 [(3, .slice A5816 x5815.length C5817), (5, .int .u64 (l9.getD x5819.toNat 0)), (6, .int .i64 x7301), (7, .slice (some ad7255) l9.length C11), (8, .int .i64 (l9.length : Int)), (9, .int .i64 x5819)] a ∧ St B w (Ass.own 5 (Kd.int .u8) A5816 C5817 x5815 :: os) (Ro.sl (Kd.int .u64) (some ad7255) C11 l9 :: rs) ∧ pack_Put.l1 K l9 x5819 j7296 n x7301 = some x3770) K (by kernel_rfl) ?_ (fun n a w hI => ?_)
          · refine EQ.keep [3, 5, 6, 7, 8, 9] [(3, .slice A5816 x5815.length C5817), (5, .int .u64 (l9.getD x5819.toNat 0)), (6, .int .i64 0), (7, .slice (some ad7255) l9.length C11), (8, .int .i64 (l9.length : Int)), (9, .int .i64 x5819)] (by kernel_rfl) ?_
            exact fun a ha => ⟨0, ha, (hS.re [0] [] rfl (sub_cons 0 rfl (sub_tail (sub_self)))), H⟩
          · obtain ⟨x7301, ha, hS, H⟩ := hI
            obtain _ | n := n
            · simp [pack_Put.l1] at H
            rw [pack_Put.l1.eq_2] at H
            refine EW.at ?_ a ha
            clear ha a
            refine EW.seq (x := Cd22.r.r.l.r.l.l.r.r.l.l.r.r.l.l.l.l) (y := Cd22.r.r.l.r.l.l.r.r.l.l.r.r.l.l.l.r) (by kernel_rfl) ?_
            refine EW.seq (x := Cd22.r.r.l.r.l.l.r.r.l.l.r.r.l.l.l.l.l) (y := Cd22.r.r.l.r.l.l.r.r.l.l.r.r.l.l.l.l.r) (by kernel_rfl) ?_
            refine EW.region (id := 6) (ops := Cd22.r.r.l.r.l.l.r.r.l.l.r.r.l.l.l.l.l.ops) (by kernel_rfl) ?_
            refine EL.quick 4 [3, 5, 6, 7, 8, 9, 13, 16] [(3, .slice A5816 x5815.length C5817), (5, .int .u64 (l9.getD x5819.toNat 0)), (6, .int .i64 x7301), (7, .slice (some ad7255) l9.length C11), (8, .int .i64 (l9.length : Int)), (9, .int .i64 x5819), (13, .int .u64 (l9.getD x5819.toNat 0)), (16, .int .i64 (IntKind.i64.wrap (7 * (IntKind.i64.wrap (x7301 + 1)))))] (by kernel_rfl) ?_
            obtain ⟨h7314, H⟩ := ite_out H
            refine EL.of (EO.Y (YO.shift .shr .u64 .i64 (l9.getD x5819.toNat 0) (IntKind.i64.wrap (7 * (IntKind.i64.wrap (x7301 + 1)))) (sR .u64 (l9.getD x5819.toNat 0) (IntKind.i64.wrap (7 * (IntKind.i64.wrap (x7301 + 1))))) 17 (by kernel_rfl) (by kernel_rfl) (by kernel_rfl) h7314 (by first | exact .inl ⟨rfl, rfl⟩ | exact .inr ⟨rfl, rfl⟩)) ?_)
            refine EL.quick 1 [3, 5, 6, 7, 8, 9, 18] [(3, .slice A5816 x5815.length C5817), (5, .int .u64 (l9.getD x5819.toNat 0)), (6, .int .i64 x7301), (7, .slice (some ad7255) l9.length C11), (8, .int .i64 (l9.length : Int)), (9, .int .i64 x5819), (18, .bool (!(decide ((sR .u64 (l9.getD x5819.toNat 0) (IntKind.i64.wrap (7 * (IntKind.i64.wrap (x7301 + 1))))) = 0))))] (by kernel_rfl) ?_
            refine EL.done (by kernel_rfl) ?_
            refine EQ.code ?_
            refine EW.condQ (b := !(decide ((sR .u64 (l9.getD x5819.toNat 0) (IntKind.i64.wrap (7 * (IntKind.i64.wrap (x7301 + 1))))) = 0))) (o := (.tmp 18)) (x := Cd22.r.r.l.r.l.l.r.r.l.l.r.r.l.l.l.l.r.l) (y := Cd22.r.r.l.r.l.l.r.r.l.l.r.r.l.l.l.l.r.r) ((sR .u64 (l9.getD x5819.toNat 0) (IntKind.i64.wrap (7 * (IntKind.i64.wrap (x7301 + 1))))) = 0) (false) (by kernel_rfl) (by kernel_rfl) ⟨fun h => (by rw [decide_eq_true h] <;> rfl), fun h => (by rw [decide_eq_false h] <;> rfl)⟩ (fun h7315 => ?_) (fun h7315 => ?_)
            · rw [if_pos h7315] at H
              refine EW.exit (id := 2) (by kernel_rfl) ?_
              refine EQ.exitCode ?_
              refine EQ.exitTo ?_
              refine EQ.exitHere ?_
              refine EQ.to ?_
              refine EQ.keep [3, 5, 6, 7, 8, 9] [(3, .slice A5816 x5815.length C5817), (5, .int .u64 (l9.getD x5819.toNat 0)), (6, .int .i64 x7301), (7, .slice (some ad7255) l9.length C11), (8, .int .i64 (l9.length : Int)), (9, .int .i64 x5819)] (by kernel_rfl) ?_
              exact fun a ha => ⟨x7301, ha, (hS.re [0] [] rfl (sub_cons 0 rfl (sub_tail (sub_self)))), H⟩
            · rw [if_neg h7315] at H
              refine EW.skip (by kernel_rfl) ?_
              refine EQ.code ?_
              refine EW.block (x := Cd22.r.r.l.r.l.l.r.r.l.l.r.r.l.l.l.r.l) (id := 3) (by kernel_rfl) ?_
              refine EW.region (id := 7) (ops := Cd22.r.r.l.r.l.l.r.r.l.l.r.r.l.l.l.r.l.ops) (by kernel_rfl) ?_
              refine EL.quick 3 [3, 5, 6, 7, 8, 9] [(3, .slice A5816 x5815.length C5817), (5, .int .u64 (l9.getD x5819.toNat 0)), (6, .int .i64 (IntKind.i64.wrap (x7301 + 1))), (7, .slice (some ad7255) l9.length C11), (8, .int .i64 (l9.length : Int)), (9, .int .i64 x5819)] (by kernel_rfl) ?_
              refine EL.done (by kernel_rfl) ?_
              refine EQ.pop ?_
              refine EQ.to ?_
              refine EQ.keep [3, 5, 6, 7, 8, 9] [(3, .slice A5816 x5815.length C5817), (5, .int .u64 (l9.getD x5819.toNat 0)), (6, .int .i64 (IntKind.i64.wrap (x7301 + 1))), (7, .slice (some ad7255) l9.length C11), (8, .int .i64 (l9.length : Int)), (9, .int .i64 x5819)] (by kernel_rfl) ?_
              exact fun a ha => ⟨n, Nat.lt_succ_self n, IntKind.i64.wrap (x7301 + 1), ha, (hS.re [0] [] rfl (sub_cons 0 rfl (sub_tail (sub_self)))), H⟩
        · obtain ⟨x7295, ha, hS, H⟩ := hI
          rw [hj7296] at H
          (try dsimp only at H)
          refine EW.at ?_ a ha
          clear ha a
          obtain ⟨j7458, hj7458, H⟩ := lt_out H
          refine EW.cut (x := Cd22.r.r.l.r.l.l.r.r.l.l.r.r.r.l) (y := Cd22.r.r.l.r.l.l.r.r.l.l.r.r.r.r) (fun a w => ∃ x7455 : List Int, ∃ A7456 : Option Addr, ∃ C7457 : Nat, Sat 42 [(3, .slice A7456 x7455.length C7457), (5, .int .u64 (l9.getD x5819.toNat 0)), (7, .slice (some ad7255) l9.length C11), (8, .int .i64 (l9.length : Int)), (9, .int .i64 x5819)] a ∧ St B w (Ass.own 5 (Kd.int .u8) A7456 C7457 x7455 :: os) (Ro.sl (Kd.int .u64) (some ad7255) C11 l9 :: rs) ∧ j7458 x7455 = some x3770) (by kernel_rfl) ?_ (fun a w hI => ?_)
          · refine EW.block (x := Cd22.r.r.l.r.l.l.r.r.l.l.r.r.r.l.l) (id := 4) (by kernel_rfl) ?_
            refine EW.loop (x := Cd22.r.r.l.r.l.l.r.r.l.l.r.r.r.l.l.l) (fun n a w => ∃ x7483 : List Int, ∃ x7486 : Int, ∃ A7484 : Option Addr, ∃ C7485 : Nat, Sat 42 [(3, .slice A7484 x7483.length C7485), (5, .int .u64 (l9.getD x5819.toNat 0)), (6, .int .i64 x7486), (7, .slice (some ad7255) l9.length C11), (8, .int .i64 (l9.length : Int)), (9, .int .i64 x5819)] a ∧ St B w (Ass.own 5 (Kd.int .u8) A7484 C7485 x7483 :: os) (Ro.sl (Kd.int .u64) (some ad7255) C11 l9 :: rs) ∧ pack_Put.l2 K l9 x5819 j7458 n x7483 x7486 = some x3770) K (by kernel_rfl) ?_ (fun n a w hI => ?_)
            · refine EQ.keep [3, 5, 6, 7, 8, 9] [(3, .slice A5816 x5815.length C5817), (5, .int .u64 (l9.getD x5819.toNat 0)), (6, .int .i64 x7295), (7, .slice (some ad7255) l9.length C11), (8, .int .i64 (l9.length : Int)), (9, .int .i64 x5819)] (by kernel_rfl) ?_
              exact fun a ha => ⟨x5815, x7295, A5816, C5817, ha, (hS.re [0] [] rfl (sub_cons 0 rfl (sub_tail (sub_self)))), H⟩
            · obtain ⟨x7483, x7486, A7484, C7485, ha, hS, H⟩ := hI
              obtain _ | n := n
              · simp [pack_Put.l2] at H
              rw [pack_Put.l2.eq_2] at H
              refine EW.at ?_ a ha
              clear ha a
              refine EW.seq (x := Cd22.r.r.l.r.l.l.r.r.l.l.r.r.r.l.l.l.l) (y := Cd22.r.r.l.r.l.l.r.r.l.l.r.r.r.l.l.l.r) (by kernel_rfl) ?_
              refine EW.seq (x := Cd22.r.r.l.r.l.l.r.r.l.l.r.r.r.l.l.l.l.l) (y := Cd22.r.r.l.r.l.l.r.r.l.l.r.r.r.l.l.l.l.r) (by kernel_rfl) ?_
              refine EW.region (id := 8) (ops := Cd22.r.r.l.r.l.l.r.r.l.l.r.r.r.l.l.l.l.l.ops) (by kernel_rfl) ?_
              refine EL.quick 2 [3, 5, 6, 7, 8, 9, 22] [(3, .slice A7484 x7483.length C7485), (5, .int .u64 (l9.getD x5819.toNat 0)), (6, .int .i64 x7486), (7, .slice (some ad7255) l9.length C11), (8, .int .i64 (l9.length : Int)), (9, .int .i64 x5819), (22, .bool (decide (x7486 > 0)))] (by kernel_rfl) ?_
              refine EL.done (by kernel_rfl) ?_
              refine EQ.code ?_
              refine EW.condP (o := (.tmp 22)) (x := Cd22.r.r.l.r.l.l.r.r.l.l.r.r.r.l.l.l.l.r.l) (y := Cd22.r.r.l.r.l.l.r.r.l.l.r.r.r.l.l.l.l.r.r) (x7486 > 0) (by kernel_rfl) (by kernel_rfl) (fun h7512 => ?_) (fun h7512 => ?_)
              · rw [if_pos h7512] at H
                refine EW.skip (by kernel_rfl) ?_
                refine EQ.code ?_
                refine EW.seq (x := Cd22.r.r.l.r.l.l.r.r.l.l.r.r.r.l.l.l.r.l) (y := Cd22.r.r.l.r.l.l.r.r.l.l.r.r.r.l.l.l.r.r) (by kernel_rfl) ?_
                refine EW.block (x := Cd22.r.r.l.r.l.l.r.r.l.l.r.r.r.l.l.l.r.l.l) (id := 5) (by kernel_rfl) ?_
                refine EW.region (id := 10) (ops := Cd22.r.r.l.r.l.l.r.r.l.l.r.r.r.l.l.l.r.l.l.ops) (by kernel_rfl) ?_
                refine EL.quick 4 [5, 6, 7, 8, 9, 25, 26, 28] [(5, .int .u64 (l9.getD x5819.toNat 0)), (6, .int .i64 x7486), (7, .slice (some ad7255) l9.length C11), (8, .int .i64 (l9.length : Int)), (9, .int .i64 x5819), (25, .slice A7484 x7483.length C7485), (26, .int .u64 (l9.getD x5819.toNat 0)), (28, .int .i64 (IntKind.i64.wrap (7 * x7486)))] (by kernel_rfl) ?_
                obtain ⟨h7520, H⟩ := ite_out H
                refine EL.of (EO.Y (YO.shift .shr .u64 .i64 (l9.getD x5819.toNat 0) (IntKind.i64.wrap (7 * x7486)) (sR .u64 (l9.getD x5819.toNat 0) (IntKind.i64.wrap (7 * x7486))) 29 (by kernel_rfl) (by kernel_rfl) (by kernel_rfl) h7520 (by first | exact .inl ⟨rfl, rfl⟩ | exact .inr ⟨rfl, rfl⟩)) ?_)
                refine EL.quick 2 [5, 6, 7, 8, 9, 25, 31] [(5, .int .u64 (l9.getD x5819.toNat 0)), (6, .int .i64 x7486), (7, .slice (some ad7255) l9.length C11), (8, .int .i64 (l9.length : Int)), (9, .int .i64 x5819), (25, .slice A7484 x7483.length C7485), (31, .int .u8 (bO .u8 (IntKind.u8.wrap (sR .u64 (l9.getD x5819.toNat 0) (IntKind.i64.wrap (7 * x7486)))) 128))] (by kernel_rfl) ?_
                obtain ⟨l7522, hl7522, H⟩ := lt_out H
                refine EL.of (EO.lit hS (Kd.int .u8) 5 22 1 #[(0, .int .u8 (bO .u8 (IntKind.u8.wrap (sR .u64 (l9.getD x5819.toNat 0) (IntKind.i64.wrap (7 * x7486)))) 128))] [.int .u8 (bO .u8 (IntKind.u8.wrap (sR .u64 (l9.getD x5819.toNat 0) (IntKind.i64.wrap (7 * x7486)))) 128)] l7522 32 (by kernel_rfl) (by kernel_rfl) (by kernel_rfl) (fun _ => (by kernel_rfl)) (by rw [hl7522]; rfl) (by kernel_rfl) (fun w G hr => (by rw [hl7522]; exact ⟨[.int .u8 (bO .u8 (IntKind.u8.wrap (sR .u64 (l9.getD x5819.toNat 0) (IntKind.i64.wrap (7 * x7486)))) 128)], [], rfl, rfl, rfl⟩)) ?_)
                intro g7521 w hS
                obtain ⟨h7523, H⟩ := ite_in H
                obtain ⟨l7524, hl7524, H⟩ := lt_out H
                refine EL.of (EO.append hS 22 22 5 1 1 (Kd.int .u8) A7484 C7485 x7483 rfl (some ⟨g7521, 0, none⟩) 1 l7522 (Rd.own 0 5 rfl) l7524 hl7524 (fun A7525 C7526 => Ass.own 5 (Kd.int .u8) (some ⟨g7521, 0, none⟩) 1 l7522 :: Ass.own 5 (Kd.int .u8) A7525 C7526 l7524 :: os) 33 (by kernel_rfl) (by kernel_rfl) (by kernel_rfl) (by kernel_rfl) h7523 (fun _ _ => rfl) ?_)
                intro A7525 C7526 w hS
                refine EL.quick 1 [3, 5, 6, 7, 8, 9] [(3, .slice A7525 l7524.length C7526), (5, .int .u64 (l9.getD x5819.toNat 0)), (6, .int .i64 x7486), (7, .slice (some ad7255) l9.length C11), (8, .int .i64 (l9.length : Int)), (9, .int .i64 x5819)] (by kernel_rfl) ?_
                refine EL.done (by kernel_rfl) ?_
                refine EQ.pop ?_
                refine EQ.code ?_
                refine EW.region (id := 9) (ops := Cd22.r.r.l.r.l.l.r.r.l.l.r.r.r.l.l.l.r.r.ops) (by kernel_rfl) ?_
                refine EL.quick 3 [3, 5, 6, 7, 8, 9] [(3, .slice A7525 l7524.length C7526), (5, .int .u64 (l9.getD x5819.toNat 0)), (6, .int .i64 (IntKind.i64.wrap (x7486 - 1))), (7, .slice (some ad7255) l9.length C11), (8, .int .i64 (l9.length : Int)), (9, .int .i64 x5819)] (by kernel_rfl) ?_
                refine EL.done (by kernel_rfl) ?_
                refine EQ.to ?_
                refine EQ.keep [3, 5, 6, 7, 8, 9] [(3, .slice A7525 l7524.length C7526), (5, .int .u64 (l9.getD x5819.toNat 0)), (6, .int .i64 (IntKind.i64.wrap (x7486 - 1))), (7, .slice (some ad7255) l9.length C11), (8, .int .i64 (l9.length : Int)), (9, .int .i64 x5819)] (by kernel_rfl) ?_
                exact fun a ha => ⟨n, Nat.lt_succ_self n, l7524, IntKind.i64.wrap (x7486 - 1), A7525, C7526, ha, (hS.re [1] [1] rfl (sub_cons 0 rfl (sub_tail (sub_self)))), H⟩
              · rw [if_neg h7512] at H
                refine EW.exit (id := 4) (by kernel_rfl) ?_
                refine EQ.exitCode ?_
                refine EQ.exitTo ?_
                refine EQ.exitHere ?_
                refine EQ.to ?_
                refine EQ.keep [3, 5, 7, 8, 9] [(3, .slice A7484 x7483.length C7485), (5, .int .u64 (l9.getD x5819.toNat 0)), (7, .slice (some ad7255) l9.length C11), (8, .int .i64 (l9.length : Int)), (9, .int .i64 x5819)] (by kernel_rfl) ?_
                exact fun a ha => ⟨x7483, A7484, C7485, ha, (hS.re [0] [] rfl (sub_cons 0 rfl (sub_tail (sub_self)))), H⟩
          · obtain ⟨x7455, A7456, C7457, ha, hS, H⟩ := hI
            rw [hj7458] at H
            (try dsimp only at H)
            refine EW.at ?_ a ha
            clear ha a
            refine EW.region (id := 11) (ops := Cd22.r.r.l.r.l.l.r.r.l.l.r.r.r.r.ops) (by kernel_rfl) ?_
            refine EL.quick 4 [7, 8, 9, 34, 37] [(7, .slice (some ad7255) l9.length C11), (8, .int .i64 (l9.length : Int)), (9, .int .i64 x5819), (34, .slice A7456 x7455.length C7457), (37, .int .u8 (bN .u8 (IntKind.u8.wrap (l9.getD x5819.toNat 0)) 128))] (by kernel_rfl) ?_
            obtain ⟨l7528, hl7528, H⟩ := lt_out H
            refine EL.of (EO.lit hS (Kd.int .u8) 5 22 1 #[(0, .int .u8 (bN .u8 (IntKind.u8.wrap (l9.getD x5819.toNat 0)) 128))] [.int .u8 (bN .u8 (IntKind.u8.wrap (l9.getD x5819.toNat 0)) 128)] l7528 38 (by kernel_rfl) (by kernel_rfl) (by kernel_rfl) (fun _ => (by kernel_rfl)) (by rw [hl7528]; rfl) (by kernel_rfl) (fun w G hr => (by rw [hl7528]; exact ⟨[.int .u8 (bN .u8 (IntKind.u8.wrap (l9.getD x5819.toNat 0)) 128)], [], rfl, rfl, rfl⟩)) ?_)
            intro g7527 w hS
            obtain ⟨h7529, H⟩ := ite_in H
            obtain ⟨l7530, hl7530, H⟩ := lt_out H
            refine EL.of (EO.append hS 22 22 5 1 1 (Kd.int .u8) A7456 C7457 x7455 rfl (some ⟨g7527, 0, none⟩) 1 l7528 (Rd.own 0 5 rfl) l7530 hl7530 (fun A7531 C7532 => Ass.own 5 (Kd.int .u8) (some ⟨g7527, 0, none⟩) 1 l7528 :: Ass.own 5 (Kd.int .u8) A7531 C7532 l7530 :: os) 39 (by kernel_rfl) (by kernel_rfl) (by kernel_rfl) (by kernel_rfl) h7529 (fun _ _ => rfl) ?_)
            intro A7531 C7532 w hS
            refine EL.quick 1 [3, 7, 8, 9] [(3, .slice A7531 l7530.length C7532), (7, .slice (some ad7255) l9.length C11), (8, .int .i64 (l9.length : Int)), (9, .int .i64 x5819)] (by kernel_rfl) ?_
            refine EL.done (by kernel_rfl) ?_
            refine EQ.pop ?_
            refine EQ.to ?_
            refine EQ.keep [3, 7, 8, 9] [(3, .slice A7531 l7530.length C7532), (7, .slice (some ad7255) l9.length C11), (8, .int .i64 (l9.length : Int)), (9, .int .i64 x5819)] (by kernel_rfl) ?_
            exact fun a ha => ⟨l7528, l7530, (some ⟨g7527, 0, none⟩), 1, A7531, C7532, ha, (hS.re [1, 1] [] rfl (sub_cons 0 rfl (sub_tail (sub_self)))), H⟩
      · obtain ⟨x7245, x7248, A7246, C7247, A7249, C7250, ha, hS, H⟩ := hI
        rw [hj7251] at H
        (try dsimp only at H)
        refine EW.at ?_ a ha
        clear ha a
        refine EW.region (id := 12) (ops := Cd22.r.r.l.r.l.l.r.r.r.ops) (by kernel_rfl) ?_
        refine EL.quick 2 [3, 7, 8, 9] [(3, .slice A7249 x7248.length C7250), (7, .slice A10 l9.length C11), (8, .int .i64 (l9.length : Int)), (9, .int .i64 (IntKind.i64.wrap (x5819 + 1)))] (by kernel_rfl) ?_
        refine EL.done (by kernel_rfl) ?_
        refine EQ.to ?_
        refine EQ.keep [3, 7, 8, 9] [(3, .slice A7249 x7248.length C7250), (7, .slice A10 l9.length C11), (8, .int .i64 (l9.length : Int)), (9, .int .i64 (IntKind.i64.wrap (x5819 + 1)))] (by kernel_rfl) ?_
        exact fun a ha => ⟨n, Nat.lt_succ_self n, x7248, IntKind.i64.wrap (x5819 + 1), A7249, C7250, ha, (hS.re [1] [1] rfl (sub_cons 0 rfl (sub_tail (sub_self)))), H⟩
    · rw [if_neg h6682] at H
      refine EW.exit (id := 0) (by kernel_rfl) ?_
      refine EQ.exitCode ?_
      refine EQ.exitTo ?_
      refine EQ.exitHere ?_
      refine EQ.code ?_
      refine EW.seq (x := Cd22.r.r.r.l) (y := Cd22.r.r.r.r) (by kernel_rfl) ?_
      refine EW.region (id := 13) (ops := Cd22.r.r.r.l.ops) (by kernel_rfl) ?_
      refine EL.quick 2 [2] [(2, .slice A5816 x5815.length C5817)] (by kernel_rfl) ?_
      refine EL.done (by kernel_rfl) ?_
      refine EQ.code ?_
      refine EW.ret (by kernel_rfl) ?_
      obtain rfl := Option.some.inj H
      exact EQ.leave (.slice A5816 x5815.length C5817) (by kernel_rfl) ⟨_, rfl, A5816, C5817, rfl, (hS.re [0] [] rfl (sub_self))⟩

/-! ### confidant/pack.Lump: function 20 -/
def pack_Lump.f (K : Nat) (l7539 : List Int) : Option (List Int) := lt ([IntKind.u64.wrap (l7539.length : Int)] : List Int) fun l7556 => (b1 (pack_Put.f K l7556) fun (t7557 : List Int) => (if (t7557.length + l7539.length) * 1 ≤ 140737488355328 then (lt (t7557 ++ l7539) fun l7562 => (some l7562)) else none))
set_option maxRecDepth 100000 in
theorem pack_Lump.calls {K : Nat} {l7539 : List Int} {A7540 : Option Addr} {C7541 : Nat} {x7552 : List Int} {B w : World} {os : List Ass} {rs : List Ro} (H : pack_Lump.f K l7539 = some x7552) (hS : St B w (os) (Ro.sl (Kd.int .u8) A7540 C7541 l7539 :: rs)) :
    Calls Try.prog 20 [.slice A7540 l7539.length C7541].toArray w (fun en w' => ∃ v, en = .returned v ∧ ∃ A7553 : Option Addr, ∃ C7554 : Nat, v = .slice A7553 x7552.length C7554 ∧ St B w' (Ass.own 5 (Kd.int .u8) A7553 C7554 x7552 :: os) (Ro.sl (Kd.int .u8) A7540 C7541 l7539 :: rs)) := by
  unfold pack_Lump.f at H
  refine calls_of_EW (args := [.slice A7540 l7539.length C7541]) (c := Cd20) 10 Try.func20 (by kernel_rfl) (by kernel_rfl) (by kernel_rfl) ?_
  refine EW.seq (x := Cd20.l) (y := Cd20.r) (by kernel_rfl) ?_
  refine EW.region (id := 0) (ops := Cd20.l.ops) (by kernel_rfl) ?_
  refine EL.quick 1 [0] [(0, .slice A7540 l7539.length C7541)] (by kernel_rfl) ?_
  refine EL.done (by kernel_rfl) ?_
  refine EQ.code ?_
  refine EW.seq (x := Cd20.r.l) (y := Cd20.r.r) (by kernel_rfl) ?_
  refine EW.region (id := 1) (ops := Cd20.r.l.ops) (by kernel_rfl) ?_
  refine EL.quick 3 [0, 5] [(0, .slice A7540 l7539.length C7541), (5, .int .u64 (IntKind.u64.wrap (l7539.length : Int)))] (by kernel_rfl) ?_
  obtain ⟨l7556, hl7556, H⟩ := lt_out H
  refine EL.of (EO.lit hS (Kd.int .u64) 23 36 1 #[(0, .int .u64 (IntKind.u64.wrap (l7539.length : Int)))] [.int .u64 (IntKind.u64.wrap (l7539.length : Int))] l7556 6 (by kernel_rfl) (by kernel_rfl) (by kernel_rfl) (fun _ => (by kernel_rfl)) (by rw [hl7556]; rfl) (by kernel_rfl) (fun w G hr => (by rw [hl7556]; exact ⟨[.int .u64 (IntKind.u64.wrap (l7539.length : Int))], [], rfl, rfl, rfl⟩)) ?_)
  intro g7555 w hS
  have hS := St.fr hS 0 rfl
  have hS : St B _ (os) (Ro.sl (Kd.int .u64) (some ⟨g7555, 0, none⟩) 1 l7556 :: Ro.sl (Kd.int .u64) (some ⟨g7555, 0, none⟩) 1 l7556 :: Ro.sl (Kd.int .u8) A7540 C7541 l7539 :: rs) := hS.re [] [] rfl (sub_cons 0 rfl sub_self)
  obtain ⟨t7557, hc7560, H⟩ := b1_out H
  refine EL.of (EO.callD 22 [.slice (some ⟨g7555, 0, none⟩) l7556.length 1] _ 7 (by kernel_rfl) (by kernel_rfl) (by kernel_rfl) (pack_Put.calls hc7560 hS) ?_)
  rintro v w ⟨A7558, C7559, rfl, hS⟩
  refine EL.quick 1 [7, 8] [(7, .slice A7558 t7557.length C7559), (8, .slice A7540 l7539.length C7541)] (by kernel_rfl) ?_
  obtain ⟨h7561, H⟩ := ite_in H
  obtain ⟨l7562, hl7562, H⟩ := lt_out H
  refine EL.of (EO.append hS 22 22 5 1 0 (Kd.int .u8) A7558 C7559 t7557 rfl A7540 C7541 l7539 (Rd.ro 2 rfl) l7562 hl7562 (fun A7563 C7564 => Ass.own 5 (Kd.int .u8) A7563 C7564 l7562 :: os) 9 (by kernel_rfl) (by kernel_rfl) (by kernel_rfl) (by kernel_rfl) h7561 (fun _ _ => rfl) ?_)
  intro A7563 C7564 w hS
  refine EL.quick 1 [2] [(2, .slice A7563 l7562.length C7564)] (by kernel_rfl) ?_
  refine EL.done (by kernel_rfl) ?_
  refine EQ.code ?_
  refine EW.ret (by kernel_rfl) ?_
  obtain rfl := Option.some.inj H
  exact EQ.leave (.slice A7563 l7562.length C7564) (by kernel_rfl) ⟨_, rfl, A7563, C7564, rfl, (hS.re [0] [] rfl (sub_tail (sub_tail (sub_self))))⟩

/-! ### confidant/pack.New: function 25 -/
def pack_New.f (K : Nat) (l7579 : List Int) : Option (List Int × Int) := some (l7579, 0)
set_option maxRecDepth 100000 in
theorem pack_New.calls {K : Nat} {l7579 : List Int} {A7580 : Option Addr} {C7581 : Nat} {x7584 : List Int} {x7587 : Int} {B w : World} {os : List Ass} {rs : List Ro} (H : pack_New.f K l7579 = some (x7584, x7587)) (hS : St B w (os) (Ro.sl (Kd.int .u8) A7580 C7581 l7579 :: rs)) :
    Calls Try.prog 25 [.slice A7580 l7579.length C7581].toArray w (fun en w' => ∃ v, en = .returned v ∧ ∃ g7583 : Nat, ∃ A7585 : Option Addr, ∃ C7586 : Nat, v = .pointer (some ⟨g7583, 0, none⟩) ∧ St B w' (Ass.box 91 g7583 [.slice A7585 x7584.length C7586, .int .i64 x7587] :: os) (Ro.sl (Kd.int .u8) A7585 C7586 x7584 :: Ro.sl (Kd.int .u8) A7580 C7581 l7579 :: rs)) := by
  unfold pack_New.f at H
  refine calls_of_EW (args := [.slice A7580 l7579.length C7581]) (c := Cd25) 6 Try.func25 (by kernel_rfl) (by kernel_rfl) (by kernel_rfl) ?_
  refine EW.seq (x := Cd25.l) (y := Cd25.r) (by kernel_rfl) ?_
  refine EW.region (id := 0) (ops := Cd25.l.ops) (by kernel_rfl) ?_
  refine EL.quick 1 [0] [(0, .slice A7580 l7579.length C7581)] (by kernel_rfl) ?_
  refine EL.done (by kernel_rfl) ?_
  refine EQ.code ?_
  refine EW.seq (x := Cd25.r.l) (y := Cd25.r.r) (by kernel_rfl) ?_
  refine EW.region (id := 1) (ops := Cd25.r.l.ops) (by kernel_rfl) ?_
  refine EL.quick 2 [4] [(4, .agg #[.slice A7580 l7579.length C7581, .int .i64 0])] (by kernel_rfl) ?_
  refine EL.of (EO.box hS 91 (.agg #[.slice A7580 l7579.length C7581, .int .i64 0]) [.slice A7580 l7579.length C7581, .int .i64 0] 5 (by kernel_rfl) (by kernel_rfl) (by kernel_rfl) (by first | rfl | kernel_rfl) ?_)
  intro g7588 w hS
  refine EL.quick 1 [2] [(2, .pointer (some ⟨g7588, 0, none⟩))] (by kernel_rfl) ?_
  refine EL.done (by kernel_rfl) ?_
  refine EQ.code ?_
  refine EW.ret (by kernel_rfl) ?_
  simp only [Option.some.injEq, Prod.mk.injEq] at H
  obtain ⟨rfl, rfl⟩ := H
  exact EQ.leave (.pointer (some ⟨g7588, 0, none⟩)) (by kernel_rfl) ⟨_, rfl, g7588, A7580, C7581, rfl, (hS.re [0] [] rfl (sub_cons 0 rfl (sub_self)))⟩

/-! ### (*confidant/pack.Reader).fail: function 48 -/
def pack_Reader_fail.f (K : Nat) (l7647 : List Int) (a7650 : Int) (a7651 : Int) : Option (List Int × Int × Int) := some (([] : List Int), a7651, 0)
set_option maxRecDepth 100000 in
theorem pack_Reader_fail.calls {K : Nat} {l7647 : List Int} {a7650 : Int} {a7651 : Int} {g7646 : Nat} {A7648 : Option Addr} {C7649 : Nat} {x7652 : List Int} {x7655 : Int} {x7656 : Int} {B w : World} {os : List Ass} {rs : List Ro} (H : pack_Reader_fail.f K l7647 a7650 a7651 = some (x7652, x7655, x7656)) (hS : St B w (Ass.box 91 g7646 [.slice A7648 l7647.length C7649, .int .i64 a7650] :: os) (Ro.sl (Kd.int .u8) A7648 C7649 l7647 :: rs)) :
    Calls Try.prog 48 [.pointer (some ⟨g7646, 0, none⟩), .int .i64 a7651].toArray w (fun en w' => ∃ v, en = .returned v ∧ ∃ A7653 : Option Addr, ∃ C7654 : Nat, v = .int .u64 x7656 ∧ St B w' (Ass.box 91 g7646 [.slice A7653 x7652.length C7654, .int .i64 x7655] :: os) (Ro.sl (Kd.int .u8) A7653 C7654 x7652 :: Ro.sl (Kd.int .u8) A7648 C7649 l7647 :: rs)) := by
  unfold pack_Reader_fail.f at H
  refine calls_of_EW (args := [.pointer (some ⟨g7646, 0, none⟩), .int .i64 a7651]) (c := Cd48) 12 Try.func48 (by kernel_rfl) (by kernel_rfl) (by kernel_rfl) ?_
  refine EW.seq (x := Cd48.l) (y := Cd48.r) (by kernel_rfl) ?_
  refine EW.region (id := 0) (ops := Cd48.l.ops) (by kernel_rfl) ?_
  refine EL.quick 1 [0, 1] [(0, .pointer (some ⟨g7646, 0, none⟩)), (1, .int .i64 a7651)] (by kernel_rfl) ?_
  refine EL.done (by kernel_rfl) ?_
  refine EQ.code ?_
  refine EW.seq (x := Cd48.r.l) (y := Cd48.r.r) (by kernel_rfl) ?_
  refine EW.region (id := 1) (ops := Cd48.r.l.ops) (by kernel_rfl) ?_
  refine EL.quick 5 [6, 7, 9] [(6, .pointer (some ⟨g7646, 0, none⟩)), (7, .int .i64 a7651), (9, .pointer (some ⟨g7646, 0, none⟩))] (by kernel_rfl) ?_
  refine EL.of (EO.storeBox (os' := Ass.box 91 g7646 [.slice none ([] : List Int).length 0, .int .i64 a7650] :: os) hS 0 rfl 22 0 (.slice none ([] : List Int).length 0) [.slice none ([] : List Int).length 0, .int .i64 a7650] (by kernel_rfl) (by kernel_rfl) (by kernel_rfl) (by kernel_rfl) (by kernel_rfl) (by kernel_rfl) rfl rfl ?_)
  intro w hS
  refine EL.quick 2 [7, 11] [(7, .int .i64 a7651), (11, .pointer (some ⟨g7646, 1, none⟩))] (by kernel_rfl) ?_
  refine EL.of (EO.storeBox (os' := Ass.box 91 g7646 [.slice none ([] : List Int).length 0, .int .i64 a7651] :: os) hS 0 rfl 52 1 (.int .i64 a7651) [.slice none ([] : List Int).length 0, .int .i64 a7651] (by kernel_rfl) (by kernel_rfl) (by kernel_rfl) (by kernel_rfl) (by kernel_rfl) (by kernel_rfl) rfl rfl ?_)
  intro w hS
  refine EL.done (by kernel_rfl) ?_
  refine EQ.code ?_
  refine EW.seq (x := Cd48.r.r.l) (y := Cd48.r.r.r) (by kernel_rfl) ?_
  refine EW.region (id := 2) (ops := Cd48.r.r.l.ops) (by kernel_rfl) ?_
  refine EL.quick 1 [4] [(4, .int .u64 0)] (by kernel_rfl) ?_
  refine EL.done (by kernel_rfl) ?_
  refine EQ.code ?_
  refine EW.ret (by kernel_rfl) ?_
  have hS := St.nilR hS (Kd.int .u8)
  simp only [Option.some.injEq, Prod.mk.injEq] at H
  obtain ⟨rfl, rfl, rfl⟩ := H
  exact EQ.leave (.int .u64 0) (by kernel_rfl) ⟨_, rfl, none, 0, rfl, (hS.re [0] [] rfl (sub_cons 0 rfl (sub_tail (sub_self))))⟩

/-! ### (*confidant/pack.Reader).Num: function 28 -/
def pack_Reader_Num.l0 (K : Nat) (l7625 : List Int) (a7628 : Int) (a7629 : Int) (j10353 : Option (List Int × Int × Int)) : Nat → Int → Int → Option (List Int × Int × Int)
  | 0, _, _ => none
  | n + 1, x10525, x10526 => if x10526 < (l7625.length : Int) then (lt (fun (x10832 : Int) => (pack_Reader_Num.l0 K l7625 a7628 a7629 j10353 n x10832 (IntKind.i64.wrap (x10526 + 1)))) fun j10833 => (if 0 ≤ x10526 then (lt (fun (x10859 : Bool) => (if x10859 = true then (b3 (pack_Reader_fail.f K l7625 a7628 20) fun (t10864 : List Int) (t10865 : Int) (t10866 : Int) => (some (t10864, t10865, t10866))) else (lt (bO .u64 (sL .u64 x10525 7) (IntKind.u64.wrap (bN .u8 (l7625.getD x10526.toNat 0) 128))) fun y10871 => (if (bA .u8 (l7625.getD x10526.toNat 0) 128) = 0 then (if y10871 > a7629 then (b3 (pack_Reader_fail.f K l7625 a7628 22) fun (t10882 : List Int) (t10883 : Int) (t10884 : Int) => (some (t10882, t10883, t10884))) else (if 0 ≤ (IntKind.i64.wrap (x10526 + 1)) then (if (IntKind.i64.wrap (x10526 + 1)) ≤ (l7625.length : Int) then (lt (l7625.drop ((IntKind.i64.wrap (x10526 + 1)).toNat)) fun l10890 => (some (l10890, a7628, y10871))) else none) else none)) else (j10833 y10871))))) fun j10860 => (if x10526 = 0 then (if (l7625.getD x10526.toNat 0) = 128 then (j10860 true) else (j10860 (!(decide ((sR .u64 x10525 57) = 0))))) else (j10860 (!(decide ((sR .u64 x10525 57) = 0)))))) else none)) else (j10353)
def pack_Reader_Num.f (K : Nat) (l7625 : List Int) (a7628 : Int) (a7629 : Int) : Option (List Int × Int × Int) := if a7628 = 0 then (lt (b3 (pack_Reader_fail.f K l7625 a7628 21) fun (t10893 : List Int) (t10894 : Int) (t10895 : Int) => (some (t10893, t10894, t10895))) fun j10353 => (pack_Reader_Num.l0 K l7625 a7628 a7629 j10353 K 0 0)) else (some (l7625, a7628, 0))
set_option maxRecDepth 100000 in
theorem pack_Reader_Num.calls {K : Nat} {l7625 : List Int} {a7628 : Int} {a7629 : Int} {g7624 : Nat} {A7626 : Option Addr} {C7627 : Nat} {x9268 : List Int} {x9271 : Int} {x9272 : Int} {B w : World} {os : List Ass} {rs : List Ro} (H : pack_Reader_Num.f K l7625 a7628 a7629 = some (x9268, x9271, x9272)) (hS : St B w (Ass.box 91 g7624 [.slice A7626 l7625.length C7627, .int .i64 a7628] :: os) (Ro.sl (Kd.int .u8) A7626 C7627 l7625 :: rs)) :
    Calls Try.prog 28 [.pointer (some ⟨g7624, 0, none⟩), .int .u64 a7629].toArray w (fun en w' => ∃ v, en = .returned v ∧ ∃ A9269 : Option Addr, ∃ C9270 : Nat, v = .int .u64 x9272 ∧ St B w' (Ass.box 91 g7624 [.slice A9269 x9268.length C9270, .int .i64 x9271] :: os) (Ro.sl (Kd.int .u8) A9269 C9270 x9268 :: Ro.sl (Kd.int .u8) A7626 C7627 l7625 :: rs)) := by
  unfold pack_Reader_Num.f at H
  refine calls_of_EW (args := [.pointer (some ⟨g7624, 0, none⟩), .int .u64 a7629]) (c := Cd28) 64 Try.func28 (by kernel_rfl) (by kernel_rfl) (by kernel_rfl) ?_
  refine EW.seq (x := Cd28.l) (y := Cd28.r) (by kernel_rfl) ?_
  refine EW.region (id := 0) (ops := Cd28.l.ops) (by kernel_rfl) ?_
  refine EL.quick 1 [0, 1] [(0, .pointer (some ⟨g7624, 0, none⟩)), (1, .int .u64 a7629)] (by kernel_rfl) ?_
  refine EL.done (by kernel_rfl) ?_
  refine EQ.code ?_
  refine EW.seq (x := Cd28.r.l) (y := Cd28.r.r) (by kernel_rfl) ?_
  refine EW.seq (x := Cd28.r.l.l) (y := Cd28.r.l.r) (by kernel_rfl) ?_
  refine EW.region (id := 1) (ops := Cd28.r.l.l.ops) (by kernel_rfl) ?_
  refine EL.quick 3 [0, 1, 10] [(0, .pointer (some ⟨g7624, 0, none⟩)), (1, .int .u64 a7629), (10, .pointer (some ⟨g7624, 1, none⟩))] (by kernel_rfl) ?_
  refine EL.of (EO.Y (YO.loadBox hS 0 rfl 52 1 1 (.int .i64 a7628) 11 (by kernel_rfl) (by kernel_rfl) (by kernel_rfl) (by kernel_rfl)) ?_)
  refine EL.quick 1 [0, 1, 12] [(0, .pointer (some ⟨g7624, 0, none⟩)), (1, .int .u64 a7629), (12, .bool (!(decide (a7628 = 0))))] (by kernel_rfl) ?_
  refine EL.done (by kernel_rfl) ?_
  refine EQ.code ?_
  refine EW.condQ (b := !(decide (a7628 = 0))) (o := (.tmp 12)) (x := Cd28.r.l.r.l) (y := Cd28.r.l.r.r) (a7628 = 0) (false) (by kernel_rfl) (by kernel_rfl) ⟨fun h => (by rw [decide_eq_true h] <;> rfl), fun h => (by rw [decide_eq_false h] <;> rfl)⟩ (fun h9274 => ?_) (fun h9274 => ?_)
  · rw [if_pos h9274] at H
    refine EW.skip (by kernel_rfl) ?_
    refine EQ.code ?_
    refine EW.seq (x := Cd28.r.r.l) (y := Cd28.r.r.r) (by kernel_rfl) ?_
    refine EW.region (id := 3) (ops := Cd28.r.r.l.ops) (by kernel_rfl) ?_
    refine EL.quick 1 [0, 1, 5] [(0, .pointer (some ⟨g7624, 0, none⟩)), (1, .int .u64 a7629), (5, .int .u64 0)] (by kernel_rfl) ?_
    refine EL.done (by kernel_rfl) ?_
    refine EQ.code ?_
    obtain ⟨j10353, hj10353, H⟩ := lt_out H
    refine EW.cut (x := Cd28.r.r.r.l) (y := Cd28.r.r.r.r) (fun a w => Sat 64 [(0, .pointer (some ⟨g7624, 0, none⟩))] a ∧ St B w (Ass.box 91 g7624 [.slice A7626 l7625.length C7627, .int .i64 a7628] :: os) (Ro.sl (Kd.int .u8) A7626 C7627 l7625 :: rs) ∧ j10353 = some (x9268, x9271, x9272)) (by kernel_rfl) ?_ (fun a w hI => ?_)
    · refine EW.seq (x := Cd28.r.r.r.l.l) (y := Cd28.r.r.r.l.r) (by kernel_rfl) ?_
      refine EW.region (id := 4) (ops := Cd28.r.r.r.l.l.ops) (by kernel_rfl) ?_
      refine EL.quick 3 [0, 1, 5, 15] [(0, .pointer (some ⟨g7624, 0, none⟩)), (1, .int .u64 a7629), (5, .int .u64 0), (15, .pointer (some ⟨g7624, 0, none⟩))] (by kernel_rfl) ?_
      refine EL.of (EO.Y (YO.loadBox hS 0 rfl 22 0 1 (.slice A7626 l7625.length C7627) 16 (by kernel_rfl) (by kernel_rfl) (by kernel_rfl) (by kernel_rfl)) ?_)
      refine EL.quick 2 [0, 1, 5, 16, 17, 18] [(0, .pointer (some ⟨g7624, 0, none⟩)), (1, .int .u64 a7629), (5, .int .u64 0), (16, .slice A7626 l7625.length C7627), (17, .int .i64 (l7625.length : Int)), (18, .int .i64 0)] (by kernel_rfl) ?_
      refine EL.done (by kernel_rfl) ?_
      refine EQ.code ?_
      refine EW.block (x := Cd28.r.r.r.l.r.l) (id := 0) (by kernel_rfl) ?_
      refine EW.loop (x := Cd28.r.r.r.l.r.l.l) (fun n a w => ∃ x10525 : Int, ∃ x10526 : Int, Sat 64 [(0, .pointer (some ⟨g7624, 0, none⟩)), (1, .int .u64 a7629), (5, .int .u64 x10525), (16, .slice A7626 l7625.length C7627), (17, .int .i64 (l7625.length : Int)), (18, .int .i64 x10526)] a ∧ St B w (Ass.box 91 g7624 [.slice A7626 l7625.length C7627, .int .i64 a7628] :: os) (Ro.sl (Kd.int .u8) A7626 C7627 l7625 :: rs) ∧ pack_Reader_Num.l0 K l7625 a7628 a7629 j10353 n x10525 x10526 = some (x9268, x9271, x9272)) K (by kernel_rfl) ?_ (fun n a w hI => ?_)
      · refine EQ.keep [0, 1, 5, 16, 17, 18] [(0, .pointer (some ⟨g7624, 0, none⟩)), (1, .int .u64 a7629), (5, .int .u64 0), (16, .slice A7626 l7625.length C7627), (17, .int .i64 (l7625.length : Int)), (18, .int .i64 0)] (by kernel_rfl) ?_
        exact fun a ha => ⟨0, 0, ha, (hS.re [0] [] rfl (sub_cons 0 rfl (sub_tail (sub_self)))), H⟩
      · obtain ⟨x10525, x10526, ha, hS, H⟩ := hI
        obtain _ | n := n
        · simp [pack_Reader_Num.l0] at H
        rw [pack_Reader_Num.l0.eq_2] at H
        refine EW.at ?_ a ha
        clear ha a
        refine EW.seq (x := Cd28.r.r.r.l.r.l.l.l) (y := Cd28.r.r.r.l.r.l.l.r) (by kernel_rfl) ?_
        refine EW.region (id := 5) (ops := Cd28.r.r.r.l.r.l.l.l.ops) (by kernel_rfl) ?_
        refine EL.quick 1 [0, 1, 5, 16, 17, 18, 19] [(0, .pointer (some ⟨g7624, 0, none⟩)), (1, .int .u64 a7629), (5, .int .u64 x10525), (16, .slice A7626 l7625.length C7627), (17, .int .i64 (l7625.length : Int)), (18, .int .i64 x10526), (19, .bool (decide (x10526 < (l7625.length : Int))))] (by kernel_rfl) ?_
        refine EL.done (by kernel_rfl) ?_
        refine EQ.code ?_
        refine EW.seq (x := Cd28.r.r.r.l.r.l.l.r.l) (y := Cd28.r.r.r.l.r.l.l.r.r) (by kernel_rfl) ?_
        refine EW.condP (o := (.tmp 19)) (x := Cd28.r.r.r.l.r.l.l.r.l.l) (y := Cd28.r.r.r.l.r.l.l.r.l.r) (x10526 < (l7625.length : Int)) (by kernel_rfl) (by kernel_rfl) (fun h10713 => ?_) (fun h10713 => ?_)
        · rw [if_pos h10713] at H
          refine EW.skip (by kernel_rfl) ?_
          refine EQ.code ?_
          obtain ⟨j10833, hj10833, H⟩ := lt_out H
          refine EW.cut (x := Cd28.r.r.r.l.r.l.l.r.r.l) (y := Cd28.r.r.r.l.r.l.l.r.r.r) (fun a w => ∃ x10832 : Int, Sat 64 [(0, .pointer (some ⟨g7624, 0, none⟩)), (1, .int .u64 a7629), (5, .int .u64 x10832), (16, .slice A7626 l7625.length C7627), (17, .int .i64 (l7625.length : Int)), (18, .int .i64 x10526)] a ∧ St B w (Ass.box 91 g7624 [.slice A7626 l7625.length C7627, .int .i64 a7628] :: os) (Ro.sl (Kd.int .u8) A7626 C7627 l7625 :: rs) ∧ j10833 x10832 = some (x9268, x9271, x9272)) (by kernel_rfl) ?_ (fun a w hI => ?_)
          · refine EW.block (x := Cd28.r.r.r.l.r.l.l.r.r.l.l) (id := 1) (by kernel_rfl) ?_
            refine EW.seq (x := Cd28.r.r.r.l.r.l.l.r.r.l.l.l) (y := Cd28.r.r.r.l.r.l.l.r.r.l.l.r) (by kernel_rfl) ?_
            refine EW.region (id := 6) (ops := Cd28.r.r.r.l.r.l.l.r.r.l.l.l.ops) (by kernel_rfl) ?_
            refine EL.quick 1 [0, 1, 5, 16, 17, 18, 20] [(0, .pointer (some ⟨g7624, 0, none⟩)), (1, .int .u64 a7629), (5, .int .u64 x10525), (16, .slice A7626 l7625.length C7627), (17, .int .i64 (l7625.length : Int)), (18, .int .i64 x10526), (20, .int .i64 x10526)] (by kernel_rfl) ?_
            obtain ⟨h10836, H⟩ := ite_in H
            obtain ⟨ad10837, rfl⟩ := St.rd_some hS (Rd.ro 0 rfl) h10836 h10713
            refine EL.of (EO.Y (YO.idx 22 1 ad10837 l7625.length C7627 .i64 x10526 21 (by kernel_rfl) (by kernel_rfl) (by kernel_rfl) (by kernel_rfl) h10836 h10713) ?_)
            refine EL.of (EO.Y (YO.loadEl hS (Kd.int .u8) ad10837 C7627 l7625 (Rd.ro 0 rfl) 0 (encI .u8) encI_of x10526 h10836 h10713 5 1 0 1 rfl (.int .u8 (l7625.getD x10526.toNat 0)) 22 (by kernel_rfl) (by kernel_rfl) (by kernel_rfl) (by kernel_rfl)) ?_)
            refine EL.quick 2 [0, 1, 5, 6, 7, 16, 17, 18] [(0, .pointer (some ⟨g7624, 0, none⟩)), (1, .int .u64 a7629), (5, .int .u64 x10525), (6, .int .i64 x10526), (7, .int .u8 (l7625.getD x10526.toNat 0)), (16, .slice (some ad10837) l7625.length C7627), (17, .int .i64 (l7625.length : Int)), (18, .int .i64 x10526)] (by kernel_rfl) ?_
            refine EL.done (by kernel_rfl) ?_
            refine EQ.code ?_
            refine EW.seq (x := Cd28.r.r.r.l.r.l.l.r.r.l.l.r.l) (y := Cd28.r.r.r.l.r.l.l.r.r.l.l.r.r) (by kernel_rfl) ?_
            obtain ⟨j10860, hj10860, H⟩ := lt_out H
            refine EW.cut (x := Cd28.r.r.r.l.r.l.l.r.r.l.l.r.l.l) (y := Cd28.r.r.r.l.r.l.l.r.r.l.l.r.l.r) (fun a w => ∃ x10859 : Bool, Sat 64 [(0, .pointer (some ⟨g7624, 0, none⟩)), (1, .int .u64 a7629), (5, .int .u64 x10525), (6, .int .i64 x10526), (7, .int .u8 (l7625.getD x10526.toNat 0)), (16, .slice (some ad10837) l7625.length C7627), (17, .int .i64 (l7625.length : Int)), (18, .int .i64 x10526), (33, .bool (x10859))] a ∧ St B w (Ass.box 91 g7624 [.slice (some ad10837) l7625.length C7627, .int .i64 a7628] :: os) (Ro.sl (Kd.int .u8) (some ad10837) C7627 l7625 :: rs) ∧ j10860 x10859 = some (x9268, x9271, x9272)) (by kernel_rfl) ?_ (fun a w hI => ?_)
            · refine EW.region (id := 7) (ops := Cd28.r.r.r.l.r.l.l.r.r.l.l.r.l.l.ops) (by kernel_rfl) ?_
              refine EL.quick 3 [0, 1, 5, 6, 7, 16, 17, 18, 25] [(0, .pointer (some ⟨g7624, 0, none⟩)), (1, .int .u64 a7629), (5, .int .u64 x10525), (6, .int .i64 x10526), (7, .int .u8 (l7625.getD x10526.toNat 0)), (16, .slice (some ad10837) l7625.length C7627), (17, .int .i64 (l7625.length : Int)), (18, .int .i64 x10526), (25, .bool (decide (x10526 = 0)))] (by kernel_rfl) ?_
              by_cases h10861 : x10526 = 0
              · rw [if_pos h10861] at H
                refine EL.keep [0, 1, 5, 6, 7, 16, 17, 18, 25] [(0, .pointer (some ⟨g7624, 0, none⟩)), (1, .int .u64 a7629), (5, .int .u64 x10525), (6, .int .i64 x10526), (7, .int .u8 (l7625.getD x10526.toNat 0)), (16, .slice (some ad10837) l7625.length C7627), (17, .int .i64 (l7625.length : Int)), (18, .int .i64 x10526), (25, .bool (decide (x10526 = 0)))] (by kernel_rfl) ?_
                refine EL.as' [(0, .pointer (some ⟨g7624, 0, none⟩)), (1, .int .u64 a7629), (5, .int .u64 x10525), (6, .int .i64 x10526), (7, .int .u8 (l7625.getD x10526.toNat 0)), (16, .slice (some ad10837) l7625.length C7627), (17, .int .i64 (l7625.length : Int)), (18, .int .i64 x10526), (25, .bool (true))] (by simp only [dec_t h10861, Bool.not_true, Bool.not_false]) ?_
                refine EL.quick 4 [0, 1, 5, 6, 7, 16, 17, 18, 26, 27, 29] [(0, .pointer (some ⟨g7624, 0, none⟩)), (1, .int .u64 a7629), (5, .int .u64 x10525), (6, .int .i64 x10526), (7, .int .u8 (l7625.getD x10526.toNat 0)), (16, .slice (some ad10837) l7625.length C7627), (17, .int .i64 (l7625.length : Int)), (18, .int .i64 x10526), (26, .int .u8 (l7625.getD x10526.toNat 0)), (27, .bool (decide ((l7625.getD x10526.toNat 0) = 128))), (29, .bool (decide ((l7625.getD x10526.toNat 0) = 128)))] (by kernel_rfl) ?_
                by_cases h10862 : (l7625.getD x10526.toNat 0) = 128
                · rw [if_pos h10862] at H
                  refine EL.keep [0, 1, 5, 6, 7, 16, 17, 18, 26, 27, 29] [(0, .pointer (some ⟨g7624, 0, none⟩)), (1, .int .u64 a7629), (5, .int .u64 x10525), (6, .int .i64 x10526), (7, .int .u8 (l7625.getD x10526.toNat 0)), (16, .slice (some ad10837) l7625.length C7627), (17, .int .i64 (l7625.length : Int)), (18, .int .i64 x10526), (26, .int .u8 (l7625.getD x10526.toNat 0)), (27, .bool (decide ((l7625.getD x10526.toNat 0) = 128))), (29, .bool (decide ((l7625.getD x10526.toNat 0) = 128)))] (by kernel_rfl) ?_
                  refine EL.as' [(0, .pointer (some ⟨g7624, 0, none⟩)), (1, .int .u64 a7629), (5, .int .u64 x10525), (6, .int .i64 x10526), (7, .int .u8 (l7625.getD x10526.toNat 0)), (16, .slice (some ad10837) l7625.length C7627), (17, .int .i64 (l7625.length : Int)), (18, .int .i64 x10526), (26, .int .u8 (l7625.getD x10526.toNat 0)), (27, .bool (true)), (29, .bool (true))] (by simp only [dec_t h10862, Bool.not_true, Bool.not_false]) ?_
                  refine EL.quick 4 [0, 1, 5, 6, 7, 16, 17, 18, 26, 27, 33] [(0, .pointer (some ⟨g7624, 0, none⟩)), (1, .int .u64 a7629), (5, .int .u64 x10525), (6, .int .i64 x10526), (7, .int .u8 (l7625.getD x10526.toNat 0)), (16, .slice (some ad10837) l7625.length C7627), (17, .int .i64 (l7625.length : Int)), (18, .int .i64 x10526), (26, .int .u8 (l7625.getD x10526.toNat 0)), (27, .bool (true)), (33, .bool (true))] (by kernel_rfl) ?_
                  refine EL.done (by kernel_rfl) ?_
                  refine EQ.to ?_
                  refine EQ.keep [0, 1, 5, 6, 7, 16, 17, 18, 33] [(0, .pointer (some ⟨g7624, 0, none⟩)), (1, .int .u64 a7629), (5, .int .u64 x10525), (6, .int .i64 x10526), (7, .int .u8 (l7625.getD x10526.toNat 0)), (16, .slice (some ad10837) l7625.length C7627), (17, .int .i64 (l7625.length : Int)), (18, .int .i64 x10526), (33, .bool (true))] (by kernel_rfl) ?_
                  exact fun a ha => ⟨true, ha, (hS.re [0] [] rfl (sub_cons 0 rfl (sub_tail (sub_self)))), H⟩
                · rw [if_neg h10862] at H
                  refine EL.keep [0, 1, 5, 6, 7, 16, 17, 18, 26, 27, 29] [(0, .pointer (some ⟨g7624, 0, none⟩)), (1, .int .u64 a7629), (5, .int .u64 x10525), (6, .int .i64 x10526), (7, .int .u8 (l7625.getD x10526.toNat 0)), (16, .slice (some ad10837) l7625.length C7627), (17, .int .i64 (l7625.length : Int)), (18, .int .i64 x10526), (26, .int .u8 (l7625.getD x10526.toNat 0)), (27, .bool (decide ((l7625.getD x10526.toNat 0) = 128))), (29, .bool (decide ((l7625.getD x10526.toNat 0) = 128)))] (by kernel_rfl) ?_
                  refine EL.as' [(0, .pointer (some ⟨g7624, 0, none⟩)), (1, .int .u64 a7629), (5, .int .u64 x10525), (6, .int .i64 x10526), (7, .int .u8 (l7625.getD x10526.toNat 0)), (16, .slice (some ad10837) l7625.length C7627), (17, .int .i64 (l7625.length : Int)), (18, .int .i64 x10526), (26, .int .u8 (l7625.getD x10526.toNat 0)), (27, .bool (false)), (29, .bool (false))] (by simp only [dec_f h10862, Bool.not_true, Bool.not_false]) ?_
                  refine EL.quick 4 [0, 1, 5, 6, 7, 16, 17, 18, 26, 27, 30, 31, 32, 33] [(0, .pointer (some ⟨g7624, 0, none⟩)), (1, .int .u64 a7629), (5, .int .u64 x10525), (6, .int .i64 x10526), (7, .int .u8 (l7625.getD x10526.toNat 0)), (16, .slice (some ad10837) l7625.length C7627), (17, .int .i64 (l7625.length : Int)), (18, .int .i64 x10526), (26, .int .u8 (l7625.getD x10526.toNat 0)), (27, .bool (false)), (30, .int .u64 x10525), (31, .int .u64 (sR .u64 x10525 57)), (32, .bool (!(decide ((sR .u64 x10525 57) = 0)))), (33, .bool (!(decide ((sR .u64 x10525 57) = 0))))] (by kernel_rfl) ?_
                  refine EL.done (by kernel_rfl) ?_
                  refine EQ.to ?_
                  refine EQ.keep [0, 1, 5, 6, 7, 16, 17, 18, 33] [(0, .pointer (some ⟨g7624, 0, none⟩)), (1, .int .u64 a7629), (5, .int .u64 x10525), (6, .int .i64 x10526), (7, .int .u8 (l7625.getD x10526.toNat 0)), (16, .slice (some ad10837) l7625.length C7627), (17, .int .i64 (l7625.length : Int)), (18, .int .i64 x10526), (33, .bool (!(decide ((sR .u64 x10525 57) = 0))))] (by kernel_rfl) ?_
                  exact fun a ha => ⟨!(decide ((sR .u64 x10525 57) = 0)), ha, (hS.re [0] [] rfl (sub_cons 0 rfl (sub_tail (sub_self)))), H⟩
              · rw [if_neg h10861] at H
                refine EL.keep [0, 1, 5, 6, 7, 16, 17, 18, 25] [(0, .pointer (some ⟨g7624, 0, none⟩)), (1, .int .u64 a7629), (5, .int .u64 x10525), (6, .int .i64 x10526), (7, .int .u8 (l7625.getD x10526.toNat 0)), (16, .slice (some ad10837) l7625.length C7627), (17, .int .i64 (l7625.length : Int)), (18, .int .i64 x10526), (25, .bool (decide (x10526 = 0)))] (by kernel_rfl) ?_
                refine EL.as' [(0, .pointer (some ⟨g7624, 0, none⟩)), (1, .int .u64 a7629), (5, .int .u64 x10525), (6, .int .i64 x10526), (7, .int .u8 (l7625.getD x10526.toNat 0)), (16, .slice (some ad10837) l7625.length C7627), (17, .int .i64 (l7625.length : Int)), (18, .int .i64 x10526), (25, .bool (false))] (by simp only [dec_f h10861, Bool.not_true, Bool.not_false]) ?_
                refine EL.quick 8 [0, 1, 5, 6, 7, 16, 17, 18, 30, 31, 32, 33] [(0, .pointer (some ⟨g7624, 0, none⟩)), (1, .int .u64 a7629), (5, .int .u64 x10525), (6, .int .i64 x10526), (7, .int .u8 (l7625.getD x10526.toNat 0)), (16, .slice (some ad10837) l7625.length C7627), (17, .int .i64 (l7625.length : Int)), (18, .int .i64 x10526), (30, .int .u64 x10525), (31, .int .u64 (sR .u64 x10525 57)), (32, .bool (!(decide ((sR .u64 x10525 57) = 0)))), (33, .bool (!(decide ((sR .u64 x10525 57) = 0))))] (by kernel_rfl) ?_
                refine EL.done (by kernel_rfl) ?_
                refine EQ.to ?_
                refine EQ.keep [0, 1, 5, 6, 7, 16, 17, 18, 33] [(0, .pointer (some ⟨g7624, 0, none⟩)), (1, .int .u64 a7629), (5, .int .u64 x10525), (6, .int .i64 x10526), (7, .int .u8 (l7625.getD x10526.toNat 0)), (16, .slice (some ad10837) l7625.length C7627), (17, .int .i64 (l7625.length : Int)), (18, .int .i64 x10526), (33, .bool (!(decide ((sR .u64 x10525 57) = 0))))] (by kernel_rfl) ?_
                exact fun a ha => ⟨!(decide ((sR .u64 x10525 57) = 0)), ha, (hS.re [0] [] rfl (sub_cons 0 rfl (sub_tail (sub_self)))), H⟩
            · obtain ⟨x10859, ha, hS, H⟩ := hI
              rw [hj10860] at H
              (try dsimp only at H)
              refine EW.at ?_ a ha
              clear ha a
              refine EW.condP' (o := (.tmp 33)) (x := Cd28.r.r.r.l.r.l.l.r.r.l.l.r.l.r.l) (y := Cd28.r.r.r.l.r.l.l.r.r.l.l.r.l.r.r) (x10859) (by kernel_rfl) (by kernel_rfl) (fun h10863 => ?_) (fun h10863 => ?_)
              · rw [if_pos h10863] at H
                refine EW.seq (x := Cd28.r.r.r.l.r.l.l.r.r.l.l.r.l.r.l.l) (y := Cd28.r.r.r.l.r.l.l.r.r.l.l.r.l.r.l.r) (by kernel_rfl) ?_
                refine EW.region (id := 8) (ops := Cd28.r.r.r.l.r.l.l.r.r.l.l.r.l.r.l.l.ops) (by kernel_rfl) ?_
                refine EL.quick 1 [34] [(34, .pointer (some ⟨g7624, 0, none⟩))] (by kernel_rfl) ?_
                have hS : St B _ (Ass.box 91 g7624 [.slice (some ad10837) l7625.length C7627, .int .i64 a7628] :: os) (Ro.sl (Kd.int .u8) (some ad10837) C7627 l7625 :: Ro.sl (Kd.int .u8) (some ad10837) C7627 l7625 :: rs) := hS.re [0] [] rfl (sub_cons 0 rfl sub_self)
                obtain ⟨t10864, t10865, t10866, hc10869, H⟩ := b3_out H
                refine EL.of (EO.callD 48 [.pointer (some ⟨g7624, 0, none⟩), .int .i64 20] _ 35 (by kernel_rfl) (by kernel_rfl) (by kernel_rfl) (pack_Reader_fail.calls hc10869 hS) ?_)
                rintro v w ⟨A10867, C10868, rfl, hS⟩
                refine EL.quick 1 [4] [(4, .int .u64 t10866)] (by kernel_rfl) ?_
                refine EL.done (by kernel_rfl) ?_
                refine EQ.code ?_
                refine EW.ret (by kernel_rfl) ?_
                refine EQ.ret ?_
                refine EQ.ret ?_
                refine EQ.ret ?_
                refine EQ.ret ?_
                refine EQ.ret ?_
                refine EQ.ret ?_
                simp only [Option.some.injEq, Prod.mk.injEq] at H
                obtain ⟨rfl, rfl, rfl⟩ := H
                exact EQ.leave (.int .u64 t10866) (by kernel_rfl) ⟨_, rfl, A10867, C10868, rfl, (hS.re [0] [] rfl (sub_cons 0 rfl (sub_tail (sub_tail (sub_self)))))⟩
              · rw [if_neg h10863] at H
                refine EW.skip (by kernel_rfl) ?_
                refine EQ.code ?_
                refine EW.seq (x := Cd28.r.r.r.l.r.l.l.r.r.l.l.r.r.l) (y := Cd28.r.r.r.l.r.l.l.r.r.l.l.r.r.r) (by kernel_rfl) ?_
                refine EW.region (id := 9) (ops := Cd28.r.r.r.l.r.l.l.r.r.l.l.r.r.l.ops) (by kernel_rfl) ?_
                refine EL.quick 7 [0, 1, 5, 6, 7, 16, 17, 18] [(0, .pointer (some ⟨g7624, 0, none⟩)), (1, .int .u64 a7629), (5, .int .u64 (bO .u64 (sL .u64 x10525 7) (IntKind.u64.wrap (bN .u8 (l7625.getD x10526.toNat 0) 128)))), (6, .int .i64 x10526), (7, .int .u8 (l7625.getD x10526.toNat 0)), (16, .slice (some ad10837) l7625.length C7627), (17, .int .i64 (l7625.length : Int)), (18, .int .i64 x10526)] (by kernel_rfl) ?_
                obtain ⟨y10871, hy10871, H⟩ := lt_out H
                refine EL.keep [0, 1, 5, 6, 7, 16, 17, 18] [(0, .pointer (some ⟨g7624, 0, none⟩)), (1, .int .u64 a7629), (5, .int .u64 (bO .u64 (sL .u64 x10525 7) (IntKind.u64.wrap (bN .u8 (l7625.getD x10526.toNat 0) 128)))), (6, .int .i64 x10526), (7, .int .u8 (l7625.getD x10526.toNat 0)), (16, .slice (some ad10837) l7625.length C7627), (17, .int .i64 (l7625.length : Int)), (18, .int .i64 x10526)] (by kernel_rfl) ?_
                refine EL.as' [(0, .pointer (some ⟨g7624, 0, none⟩)), (1, .int .u64 a7629), (5, .int .u64 y10871), (6, .int .i64 x10526), (7, .int .u8 (l7625.getD x10526.toNat 0)), (16, .slice (some ad10837) l7625.length C7627), (17, .int .i64 (l7625.length : Int)), (18, .int .i64 x10526)] (by subst hy10871; rfl) ?_
                refine EL.done (by kernel_rfl) ?_
                refine EQ.code ?_
                refine EW.seq (x := Cd28.r.r.r.l.r.l.l.r.r.l.l.r.r.r.l) (y := Cd28.r.r.r.l.r.l.l.r.r.l.l.r.r.r.r) (by kernel_rfl) ?_
                refine EW.seq (x := Cd28.r.r.r.l.r.l.l.r.r.l.l.r.r.r.l.l) (y := Cd28.r.r.r.l.r.l.l.r.r.l.l.r.r.r.l.r) (by kernel_rfl) ?_
                refine EW.region (id := 10) (ops := Cd28.r.r.r.l.r.l.l.r.r.l.l.r.r.r.l.l.ops) (by kernel_rfl) ?_
                refine EL.quick 3 [0, 1, 5, 6, 16, 17, 18, 44] [(0, .pointer (some ⟨g7624, 0, none⟩)), (1, .int .u64 a7629), (5, .int .u64 y10871), (6, .int .i64 x10526), (16, .slice (some ad10837) l7625.length C7627), (17, .int .i64 (l7625.length : Int)), (18, .int .i64 x10526), (44, .bool (!(decide ((bA .u8 (l7625.getD x10526.toNat 0) 128) = 0))))] (by kernel_rfl) ?_
                refine EL.done (by kernel_rfl) ?_
                refine EQ.code ?_
                refine EW.condQ (b := !(decide ((bA .u8 (l7625.getD x10526.toNat 0) 128) = 0))) (o := (.tmp 44)) (x := Cd28.r.r.r.l.r.l.l.r.r.l.l.r.r.r.l.r.l) (y := Cd28.r.r.r.l.r.l.l.r.r.l.l.r.r.r.l.r.r) ((bA .u8 (l7625.getD x10526.toNat 0) 128) = 0) (false) (by kernel_rfl) (by kernel_rfl) ⟨fun h => (by rw [decide_eq_true h] <;> rfl), fun h => (by rw [decide_eq_false h] <;> rfl)⟩ (fun h10873 => ?_) (fun h10873 => ?_)
                · rw [if_pos h10873] at H
                  refine EW.skip (by kernel_rfl) ?_
                  refine EQ.code ?_
                  refine EW.seq (x := Cd28.r.r.r.l.r.l.l.r.r.l.l.r.r.r.r.l) (y := Cd28.r.r.r.l.r.l.l.r.r.l.l.r.r.r.r.r) (by kernel_rfl) ?_
                  refine EW.seq (x := Cd28.r.r.r.l.r.l.l.r.r.l.l.r.r.r.r.l.l) (y := Cd28.r.r.r.l.r.l.l.r.r.l.l.r.r.r.r.l.r) (by kernel_rfl) ?_
                  refine EW.region (id := 11) (ops := Cd28.r.r.r.l.r.l.l.r.r.l.l.r.r.r.r.l.l.ops) (by kernel_rfl) ?_
                  refine EL.quick 3 [0, 5, 6, 47] [(0, .pointer (some ⟨g7624, 0, none⟩)), (5, .int .u64 y10871), (6, .int .i64 x10526), (47, .bool (decide (y10871 > a7629)))] (by kernel_rfl) ?_
                  refine EL.done (by kernel_rfl) ?_
                  refine EQ.code ?_
                  refine EW.condP (o := (.tmp 47)) (x := Cd28.r.r.r.l.r.l.l.r.r.l.l.r.r.r.r.l.r.l) (y := Cd28.r.r.r.l.r.l.l.r.r.l.l.r.r.r.r.l.r.r) (y10871 > a7629) (by kernel_rfl) (by kernel_rfl) (fun h10881 => ?_) (fun h10881 => ?_)
                  · rw [if_pos h10881] at H
                    refine EW.seq (x := Cd28.r.r.r.l.r.l.l.r.r.l.l.r.r.r.r.l.r.l.l) (y := Cd28.r.r.r.l.r.l.l.r.r.l.l.r.r.r.r.l.r.l.r) (by kernel_rfl) ?_
                    refine EW.region (id := 12) (ops := Cd28.r.r.r.l.r.l.l.r.r.l.l.r.r.r.r.l.r.l.l.ops) (by kernel_rfl) ?_
                    refine EL.quick 1 [48] [(48, .pointer (some ⟨g7624, 0, none⟩))] (by kernel_rfl) ?_
                    have hS : St B _ (Ass.box 91 g7624 [.slice (some ad10837) l7625.length C7627, .int .i64 a7628] :: os) (Ro.sl (Kd.int .u8) (some ad10837) C7627 l7625 :: Ro.sl (Kd.int .u8) (some ad10837) C7627 l7625 :: rs) := hS.re [0] [] rfl (sub_cons 0 rfl sub_self)
                    obtain ⟨t10882, t10883, t10884, hc10887, H⟩ := b3_out H
                    refine EL.of (EO.callD 48 [.pointer (some ⟨g7624, 0, none⟩), .int .i64 22] _ 49 (by kernel_rfl) (by kernel_rfl) (by kernel_rfl) (pack_Reader_fail.calls hc10887 hS) ?_)
                    rintro v w ⟨A10885, C10886, rfl, hS⟩
                    refine EL.quick 1 [4] [(4, .int .u64 t10884)] (by kernel_rfl) ?_
                    refine EL.done (by kernel_rfl) ?_
                    refine EQ.code ?_
                    refine EW.ret (by kernel_rfl) ?_
                    refine EQ.ret ?_
                    refine EQ.ret ?_
                    refine EQ.ret ?_
                    refine EQ.ret ?_
                    refine EQ.ret ?_
                    refine EQ.ret ?_
                    simp only [Option.some.injEq, Prod.mk.injEq] at H
                    obtain ⟨rfl, rfl, rfl⟩ := H
                    exact EQ.leave (.int .u64 t10884) (by kernel_rfl) ⟨_, rfl, A10885, C10886, rfl, (hS.re [0] [] rfl (sub_cons 0 rfl (sub_tail (sub_tail (sub_self)))))⟩
                  · rw [if_neg h10881] at H
                    refine EW.skip (by kernel_rfl) ?_
                    refine EQ.code ?_
                    refine EW.seq (x := Cd28.r.r.r.l.r.l.l.r.r.l.l.r.r.r.r.r.l) (y := Cd28.r.r.r.l.r.l.l.r.r.l.l.r.r.r.r.r.r) (by kernel_rfl) ?_
                    refine EW.region (id := 13) (ops := Cd28.r.r.r.l.r.l.l.r.r.l.l.r.r.r.r.r.l.ops) (by kernel_rfl) ?_
                    refine EL.quick 4 [5, 6, 50, 53] [(5, .int .u64 y10871), (6, .int .i64 x10526), (50, .pointer (some ⟨g7624, 0, none⟩)), (53, .pointer (some ⟨g7624, 0, none⟩))] (by kernel_rfl) ?_
                    refine EL.of (EO.Y (YO.loadBox hS 0 rfl 22 0 1 (.slice (some ad10837) l7625.length C7627) 54 (by kernel_rfl) (by kernel_rfl) (by kernel_rfl) (by kernel_rfl)) ?_)
                    refine EL.quick 2 [5, 50, 54, 56] [(5, .int .u64 y10871), (50, .pointer (some ⟨g7624, 0, none⟩)), (54, .slice (some ad10837) l7625.length C7627), (56, .int .i64 (IntKind.i64.wrap (x10526 + 1)))] (by kernel_rfl) ?_
                    obtain ⟨h10888, H⟩ := ite_in H
                    obtain ⟨h10889, H⟩ := ite_in H
                    obtain ⟨l10890, hl10890, H⟩ := lt_out H
                    refine EL.of (EO.sliceRo hS (Kd.int .u8) (some ad10837) C7627 l7625 0 rfl (some (.int .i64 (IntKind.i64.wrap (x10526 + 1)))) none none ((IntKind.i64.wrap (x10526 + 1)).toNat) l7625.length C7627 l10890 (by rw [hl10890]; exact (slice_lo _ _)) 22 57 (by kernel_rfl) (by kernel_rfl) (by kernel_rfl) (by kernel_rfl) ((Int.toNat_of_nonneg (by omega)).symm) (rfl) ⟨rfl, fun h => by first | rfl | cases h⟩ (by omega) (by omega) (.inl rfl) ?_)
                    intro A10891 C10892 hS
                    refine EL.quick 2 [5, 57, 59] [(5, .int .u64 y10871), (57, .slice A10891 l10890.length C10892), (59, .pointer (some ⟨g7624, 0, none⟩))] (by kernel_rfl) ?_
                    refine EL.of (EO.storeBox (os' := Ass.box 91 g7624 [.slice A10891 l10890.length C10892, .int .i64 a7628] :: os) hS 0 rfl 22 0 (.slice A10891 l10890.length C10892) [.slice A10891 l10890.length C10892, .int .i64 a7628] (by kernel_rfl) (by kernel_rfl) (by kernel_rfl) (by kernel_rfl) (by kernel_rfl) (by kernel_rfl) rfl rfl ?_)
                    intro w hS
                    refine EL.done (by kernel_rfl) ?_
                    refine EQ.code ?_
                    refine EW.seq (x := Cd28.r.r.r.l.r.l.l.r.r.l.l.r.r.r.r.r.r.l) (y := Cd28.r.r.r.l.r.l.l.r.r.l.l.r.r.r.r.r.r.r) (by kernel_rfl) ?_
                    refine EW.region (id := 14) (ops := Cd28.r.r.r.l.r.l.l.r.r.l.l.r.r.r.r.r.r.l.ops) (by kernel_rfl) ?_
                    refine EL.quick 2 [4] [(4, .int .u64 y10871)] (by kernel_rfl) ?_
                    refine EL.done (by kernel_rfl) ?_
                    refine EQ.code ?_
                    refine EW.ret (by kernel_rfl) ?_
                    refine EQ.ret ?_
                    refine EQ.ret ?_
                    refine EQ.ret ?_
                    refine EQ.ret ?_
                    refine EQ.ret ?_
                    simp only [Option.some.injEq, Prod.mk.injEq] at H
                    obtain ⟨rfl, rfl, rfl⟩ := H
                    exact EQ.leave (.int .u64 y10871) (by kernel_rfl) ⟨_, rfl, A10891, C10892, rfl, (hS.re [0] [] rfl (sub_cons 0 rfl (sub_tail (sub_self))))⟩
                · rw [if_neg h10873] at H
                  refine EW.exit (id := 1) (by kernel_rfl) ?_
                  refine EQ.exitCode ?_
                  refine EQ.exitHere ?_
                  refine EQ.to ?_
                  refine EQ.keep [0, 1, 5, 16, 17, 18] [(0, .pointer (some ⟨g7624, 0, none⟩)), (1, .int .u64 a7629), (5, .int .u64 y10871), (16, .slice (some ad10837) l7625.length C7627), (17, .int .i64 (l7625.length : Int)), (18, .int .i64 x10526)] (by kernel_rfl) ?_
                  exact fun a ha => ⟨y10871, ha, (hS.re [0] [] rfl (sub_cons 0 rfl (sub_tail (sub_self)))), H⟩
          · obtain ⟨x10832, ha, hS, H⟩ := hI
            rw [hj10833] at H
            (try dsimp only at H)
            refine EW.at ?_ a ha
            clear ha a
            refine EW.region (id := 15) (ops := Cd28.r.r.r.l.r.l.l.r.r.r.ops) (by kernel_rfl) ?_
            refine EL.quick 2 [0, 1, 5, 16, 17, 18] [(0, .pointer (some ⟨g7624, 0, none⟩)), (1, .int .u64 a7629), (5, .int .u64 x10832), (16, .slice A7626 l7625.length C7627), (17, .int .i64 (l7625.length : Int)), (18, .int .i64 (IntKind.i64.wrap (x10526 + 1)))] (by kernel_rfl) ?_
            refine EL.done (by kernel_rfl) ?_
            refine EQ.to ?_
            refine EQ.keep [0, 1, 5, 16, 17, 18] [(0, .pointer (some ⟨g7624, 0, none⟩)), (1, .int .u64 a7629), (5, .int .u64 x10832), (16, .slice A7626 l7625.length C7627), (17, .int .i64 (l7625.length : Int)), (18, .int .i64 (IntKind.i64.wrap (x10526 + 1)))] (by kernel_rfl) ?_
            exact fun a ha => ⟨n, Nat.lt_succ_self n, x10832, IntKind.i64.wrap (x10526 + 1), ha, (hS.re [0] [] rfl (sub_cons 0 rfl (sub_tail (sub_self)))), H⟩
        · rw [if_neg h10713] at H
          refine EW.exit (id := 0) (by kernel_rfl) ?_
          refine EQ.exitCode ?_
          refine EQ.exitTo ?_
          refine EQ.exitHere ?_
          refine EQ.to ?_
          refine EQ.keep [0] [(0, .pointer (some ⟨g7624, 0, none⟩))] (by kernel_rfl) ?_
          exact fun a ha => ⟨ha, (hS.re [0] [] rfl (sub_cons 0 rfl (sub_tail (sub_self)))), H⟩
    · obtain ⟨ha, hS, H⟩ := hI
      rw [hj10353] at H
      (try dsimp only at H)
      refine EW.at ?_ a ha
      clear ha a
      refine EW.seq (x := Cd28.r.r.r.r.l) (y := Cd28.r.r.r.r.r) (by kernel_rfl) ?_
      refine EW.region (id := 16) (ops := Cd28.r.r.r.r.l.ops) (by kernel_rfl) ?_
      refine EL.quick 1 [62] [(62, .pointer (some ⟨g7624, 0, none⟩))] (by kernel_rfl) ?_
      have hS : St B _ (Ass.box 91 g7624 [.slice A7626 l7625.length C7627, .int .i64 a7628] :: os) (Ro.sl (Kd.int .u8) A7626 C7627 l7625 :: Ro.sl (Kd.int .u8) A7626 C7627 l7625 :: rs) := hS.re [0] [] rfl (sub_cons 0 rfl sub_self)
      obtain ⟨t10893, t10894, t10895, hc10898, H⟩ := b3_out H
      refine EL.of (EO.callD 48 [.pointer (some ⟨g7624, 0, none⟩), .int .i64 21] _ 63 (by kernel_rfl) (by kernel_rfl) (by kernel_rfl) (pack_Reader_fail.calls hc10898 hS) ?_)
      rintro v w ⟨A10896, C10897, rfl, hS⟩
      refine EL.quick 1 [4] [(4, .int .u64 t10895)] (by kernel_rfl) ?_
      refine EL.done (by kernel_rfl) ?_
      refine EQ.code ?_
      refine EW.ret (by kernel_rfl) ?_
      simp only [Option.some.injEq, Prod.mk.injEq] at H
      obtain ⟨rfl, rfl, rfl⟩ := H
      exact EQ.leave (.int .u64 t10895) (by kernel_rfl) ⟨_, rfl, A10896, C10897, rfl, (hS.re [0] [] rfl (sub_cons 0 rfl (sub_tail (sub_tail (sub_self)))))⟩
  · rw [if_neg h9274] at H
    refine EW.seq (x := Cd28.r.l.r.l.l) (y := Cd28.r.l.r.l.r) (by kernel_rfl) ?_
    refine EW.region (id := 2) (ops := Cd28.r.l.r.l.l.ops) (by kernel_rfl) ?_
    refine EL.quick 1 [4] [(4, .int .u64 0)] (by kernel_rfl) ?_
    refine EL.done (by kernel_rfl) ?_
    refine EQ.code ?_
    refine EW.ret (by kernel_rfl) ?_
    refine EQ.ret ?_
    simp only [Option.some.injEq, Prod.mk.injEq] at H
    obtain ⟨rfl, rfl, rfl⟩ := H
    exact EQ.leave (.int .u64 0) (by kernel_rfl) ⟨_, rfl, A7626, C7627, rfl, (hS.re [0] [] rfl (sub_cons 0 rfl (sub_self)))⟩

/-! ### (*confidant/pack.Reader).Lump: function 26 -/
def pack_Reader_Lump.f (K : Nat) (l10913 : List Int) (a10916 : Int) (a10917 : Int) : Option (List Int × Int × List Int) := b3 (pack_Reader_Num.f K l10913 a10916 (IntKind.u64.wrap (mx a10917 0))) fun (t10980 : List Int) (t10981 : Int) (t10982 : Int) => (if t10982 > (IntKind.u64.wrap (t10980.length : Int)) then (b3 (pack_Reader_fail.f K t10980 t10981 21) fun (t10994 : List Int) (t10995 : Int) (t10996 : Int) => (some (t10994, t10995, ([] : List Int)))) else (if 0 ≤ t10982 then (if t10982 ≤ (t10980.length : Int) then (lt (t10980.take t10982.toNat) fun l11011 => (if (([] : List Int).length + l11011.length) * 1 ≤ 140737488355328 then (lt (([] : List Int) ++ l11011) fun l11015 => (lt (t10980.drop t10982.toNat) fun l11018 => (some (l11018, t10981, l11015)))) else none)) else none) else none))
set_option maxRecDepth 100000 in
theorem pack_Reader_Lump.calls {K : Nat} {l10913 : List Int} {a10916 : Int} {a10917 : Int} {g10912 : Nat} {A10914 : Option Addr} {C10915 : Nat} {x10965 : List Int} {x10968 : Int} {x10969 : List Int} {B w : World} {os : List Ass} {rs : List Ro} (H : pack_Reader_Lump.f K l10913 a10916 a10917 = some (x10965, x10968, x10969)) (hS : St B w (Ass.box 91 g10912 [.slice A10914 l10913.length C10915, .int .i64 a10916] :: os) (Ro.sl (Kd.int .u8) A10914 C10915 l10913 :: rs)) :
    Calls Try.prog 26 [.pointer (some ⟨g10912, 0, none⟩), .int .i64 a10917].toArray w (fun en w' => ∃ v, en = .returned v ∧ ∃ A10966 : Option Addr, ∃ C10967 : Nat, ∃ A10970 : Option Addr, ∃ C10971 : Nat, v = .slice A10970 x10969.length C10971 ∧ St B w' (Ass.box 91 g10912 [.slice A10966 x10965.length C10967, .int .i64 x10968] :: Ass.own 5 (Kd.int .u8) A10970 C10971 x10969 :: os) (Ro.sl (Kd.int .u8) A10966 C10967 x10965 :: Ro.sl (Kd.int .u8) A10914 C10915 l10913 :: rs)) := by
  unfold pack_Reader_Lump.f at H
  refine calls_of_EW (args := [.pointer (some ⟨g10912, 0, none⟩), .int .i64 a10917]) (c := Cd26) 39 Try.func26 (by kernel_rfl) (by kernel_rfl) (by kernel_rfl) ?_
  refine EW.seq (x := Cd26.l) (y := Cd26.r) (by kernel_rfl) ?_
  refine EW.region (id := 0) (ops := Cd26.l.ops) (by kernel_rfl) ?_
  refine EL.quick 1 [0, 1] [(0, .pointer (some ⟨g10912, 0, none⟩)), (1, .int .i64 a10917)] (by kernel_rfl) ?_
  refine EL.done (by kernel_rfl) ?_
  refine EQ.code ?_
  refine EW.seq (x := Cd26.r.l) (y := Cd26.r.r) (by kernel_rfl) ?_
  refine EW.region (id := 1) (ops := Cd26.r.l.ops) (by kernel_rfl) ?_
  refine EL.quick 4 [0, 7, 10] [(0, .pointer (some ⟨g10912, 0, none⟩)), (7, .pointer (some ⟨g10912, 0, none⟩)), (10, .int .u64 (IntKind.u64.wrap (mx a10917 0)))] (by kernel_rfl) ?_
  have hS : St B _ (Ass.box 91 g10912 [.slice A10914 l10913.length C10915, .int .i64 a10916] :: os) (Ro.sl (Kd.int .u8) A10914 C10915 l10913 :: Ro.sl (Kd.int .u8) A10914 C10915 l10913 :: rs) := hS.re [0] [] rfl (sub_cons 0 rfl sub_self)
  obtain ⟨t10980, t10981, t10982, hc10985, H⟩ := b3_out H
  refine EL.of (EO.callD 28 [.pointer (some ⟨g10912, 0, none⟩), .int .u64 (IntKind.u64.wrap (mx a10917 0))] _ 11 (by kernel_rfl) (by kernel_rfl) (by kernel_rfl) (pack_Reader_Num.calls hc10985 hS) ?_)
  rintro v w ⟨A10983, C10984, rfl, hS⟩
  refine EL.quick 1 [0, 5] [(0, .pointer (some ⟨g10912, 0, none⟩)), (5, .int .u64 t10982)] (by kernel_rfl) ?_
  refine EL.done (by kernel_rfl) ?_
  refine EQ.code ?_
  refine EW.seq (x := Cd26.r.r.l) (y := Cd26.r.r.r) (by kernel_rfl) ?_
  refine EW.seq (x := Cd26.r.r.l.l) (y := Cd26.r.r.l.r) (by kernel_rfl) ?_
  refine EW.region (id := 2) (ops := Cd26.r.r.l.l.ops) (by kernel_rfl) ?_
  refine EL.quick 4 [0, 5, 12, 15] [(0, .pointer (some ⟨g10912, 0, none⟩)), (5, .int .u64 t10982), (12, .int .u64 t10982), (15, .pointer (some ⟨g10912, 0, none⟩))] (by kernel_rfl) ?_
  refine EL.of (EO.Y (YO.loadBox hS 0 rfl 22 0 1 (.slice A10983 t10980.length C10984) 16 (by kernel_rfl) (by kernel_rfl) (by kernel_rfl) (by kernel_rfl)) ?_)
  refine EL.quick 3 [0, 5, 19] [(0, .pointer (some ⟨g10912, 0, none⟩)), (5, .int .u64 t10982), (19, .bool (decide (t10982 > (IntKind.u64.wrap (t10980.length : Int)))))] (by kernel_rfl) ?_
  refine EL.done (by kernel_rfl) ?_
  refine EQ.code ?_
  refine EW.condP (o := (.tmp 19)) (x := Cd26.r.r.l.r.l) (y := Cd26.r.r.l.r.r) (t10982 > (IntKind.u64.wrap (t10980.length : Int))) (by kernel_rfl) (by kernel_rfl) (fun h10993 => ?_) (fun h10993 => ?_)
  · rw [if_pos h10993] at H
    refine EW.seq (x := Cd26.r.r.l.r.l.l) (y := Cd26.r.r.l.r.l.r) (by kernel_rfl) ?_
    refine EW.region (id := 3) (ops := Cd26.r.r.l.r.l.l.ops) (by kernel_rfl) ?_
    refine EL.quick 1 [20] [(20, .pointer (some ⟨g10912, 0, none⟩))] (by kernel_rfl) ?_
    have hS : St B _ (Ass.box 91 g10912 [.slice A10983 t10980.length C10984, .int .i64 t10981] :: os) (Ro.sl (Kd.int .u8) A10983 C10984 t10980 :: Ro.sl (Kd.int .u8) A10983 C10984 t10980 :: Ro.sl (Kd.int .u8) A10914 C10915 l10913 :: Ro.sl (Kd.int .u8) A10914 C10915 l10913 :: rs) := hS.re [0] [] rfl (sub_cons 0 rfl sub_self)
    obtain ⟨t10994, t10995, t10996, hc10999, H⟩ := b3_out H
    refine EL.of (EO.callD 48 [.pointer (some ⟨g10912, 0, none⟩), .int .i64 21] _ 21 (by kernel_rfl) (by kernel_rfl) (by kernel_rfl) (pack_Reader_fail.calls hc10999 hS) ?_)
    rintro v w ⟨A10997, C10998, rfl, hS⟩
    refine EL.done (by kernel_rfl) ?_
    refine EQ.code ?_
    refine EW.seq (x := Cd26.r.r.l.r.l.r.l) (y := Cd26.r.r.l.r.l.r.r) (by kernel_rfl) ?_
    refine EW.region (id := 4) (ops := Cd26.r.r.l.r.l.r.l.ops) (by kernel_rfl) ?_
    refine EL.quick 1 [4] [(4, .slice none ([] : List Int).length 0)] (by kernel_rfl) ?_
    refine EL.done (by kernel_rfl) ?_
    refine EQ.code ?_
    refine EW.ret (by kernel_rfl) ?_
    refine EQ.ret ?_
    have hS := St.nilO hS 5 (Kd.int .u8)
    simp only [Option.some.injEq, Prod.mk.injEq] at H
    obtain ⟨rfl, rfl, rfl⟩ := H
    exact EQ.leave (.slice none ([] : List Int).length 0) (by kernel_rfl) ⟨_, rfl, A10997, C10998, none, 0, rfl, (hS.re [0, 1] [] rfl (sub_cons 0 rfl (sub_tail (sub_tail (sub_tail (sub_tail (sub_self)))))))⟩
  · rw [if_neg h10993] at H
    refine EW.skip (by kernel_rfl) ?_
    refine EQ.code ?_
    refine EW.seq (x := Cd26.r.r.r.l) (y := Cd26.r.r.r.r) (by kernel_rfl) ?_
    refine EW.region (id := 5) (ops := Cd26.r.r.r.l.ops) (by kernel_rfl) ?_
    refine EL.quick 3 [0, 5, 24] [(0, .pointer (some ⟨g10912, 0, none⟩)), (5, .int .u64 t10982), (24, .pointer (some ⟨g10912, 0, none⟩))] (by kernel_rfl) ?_
    refine EL.of (EO.Y (YO.loadBox hS 0 rfl 22 0 1 (.slice A10983 t10980.length C10984) 25 (by kernel_rfl) (by kernel_rfl) (by kernel_rfl) (by kernel_rfl)) ?_)
    refine EL.quick 1 [0, 5, 25, 26] [(0, .pointer (some ⟨g10912, 0, none⟩)), (5, .int .u64 t10982), (25, .slice A10983 t10980.length C10984), (26, .int .u64 t10982)] (by kernel_rfl) ?_
    obtain ⟨h11009, H⟩ := ite_in H
    obtain ⟨h11010, H⟩ := ite_in H
    obtain ⟨l11011, hl11011, H⟩ := lt_out H
    refine EL.of (EO.sliceRo hS (Kd.int .u8) A10983 C10984 t10980 0 rfl none (some (.int .u64 t10982)) none 0 t10982.toNat C10984 l11011 (by rw [hl11011]; exact (slice_hi _ _)) 22 27 (by kernel_rfl) (by kernel_rfl) (by kernel_rfl) (by kernel_rfl) (rfl) ((Int.toNat_of_nonneg (by omega)).symm) ⟨rfl, fun h => by first | rfl | cases h⟩ (by omega) (by omega) (.inl rfl) ?_)
    intro A11012 C11013 hS
    have hS := St.nilO hS 5 (Kd.int .u8)
    obtain ⟨h11014, H⟩ := ite_in H
    obtain ⟨l11015, hl11015, H⟩ := lt_out H
    refine EL.of (EO.append hS 22 22 5 1 0 (Kd.int .u8) none 0 ([] : List Int) rfl A11012 C11013 l11011 (Rd.ro 0 rfl) l11015 hl11015 (fun A11016 C11017 => Ass.own 5 (Kd.int .u8) A11016 C11017 l11015 :: Ass.box 91 g10912 [.slice A10983 t10980.length C10984, .int .i64 t10981] :: os) 28 (by kernel_rfl) (by kernel_rfl) (by kernel_rfl) (by kernel_rfl) h11014 (fun _ _ => rfl) ?_)
    intro A11016 C11017 w hS
    refine EL.quick 1 [0, 5, 6] [(0, .pointer (some ⟨g10912, 0, none⟩)), (5, .int .u64 t10982), (6, .slice A11016 l11015.length C11017)] (by kernel_rfl) ?_
    refine EL.done (by kernel_rfl) ?_
    refine EQ.code ?_
    refine EW.seq (x := Cd26.r.r.r.r.l) (y := Cd26.r.r.r.r.r) (by kernel_rfl) ?_
    refine EW.region (id := 6) (ops := Cd26.r.r.r.r.l.ops) (by kernel_rfl) ?_
    refine EL.quick 4 [5, 6, 29, 32] [(5, .int .u64 t10982), (6, .slice A11016 l11015.length C11017), (29, .pointer (some ⟨g10912, 0, none⟩)), (32, .pointer (some ⟨g10912, 0, none⟩))] (by kernel_rfl) ?_
    refine EL.of (EO.Y (YO.loadBox hS 1 rfl 22 0 1 (.slice A10983 t10980.length C10984) 33 (by kernel_rfl) (by kernel_rfl) (by kernel_rfl) (by kernel_rfl)) ?_)
    refine EL.quick 1 [6, 29, 33, 34] [(6, .slice A11016 l11015.length C11017), (29, .pointer (some ⟨g10912, 0, none⟩)), (33, .slice A10983 t10980.length C10984), (34, .int .u64 t10982)] (by kernel_rfl) ?_
    obtain ⟨l11018, hl11018, H⟩ := lt_out H
    refine EL.of (EO.sliceRo hS (Kd.int .u8) A10983 C10984 t10980 1 rfl (some (.int .u64 t10982)) none none t10982.toNat t10980.length C10984 l11018 (by rw [hl11018]; exact (slice_lo _ _)) 22 35 (by kernel_rfl) (by kernel_rfl) (by kernel_rfl) (by kernel_rfl) ((Int.toNat_of_nonneg (by omega)).symm) (rfl) ⟨rfl, fun h => by first | rfl | cases h⟩ (by omega) (by omega) (.inl rfl) ?_)
    intro A11019 C11020 hS
    refine EL.quick 2 [6, 35, 37] [(6, .slice A11016 l11015.length C11017), (35, .slice A11019 l11018.length C11020), (37, .pointer (some ⟨g10912, 0, none⟩))] (by kernel_rfl) ?_
    refine EL.of (EO.storeBox (os' := Ass.own 5 (Kd.int .u8) A11016 C11017 l11015 :: Ass.box 91 g10912 [.slice A11019 l11018.length C11020, .int .i64 t10981] :: os) hS 1 rfl 22 0 (.slice A11019 l11018.length C11020) [.slice A11019 l11018.length C11020, .int .i64 t10981] (by kernel_rfl) (by kernel_rfl) (by kernel_rfl) (by kernel_rfl) (by kernel_rfl) (by kernel_rfl) rfl rfl ?_)
    intro w hS
    refine EL.done (by kernel_rfl) ?_
    refine EQ.code ?_
    refine EW.seq (x := Cd26.r.r.r.r.r.l) (y := Cd26.r.r.r.r.r.r) (by kernel_rfl) ?_
    refine EW.region (id := 7) (ops := Cd26.r.r.r.r.r.l.ops) (by kernel_rfl) ?_
    refine EL.quick 2 [4] [(4, .slice A11016 l11015.length C11017)] (by kernel_rfl) ?_
    refine EL.done (by kernel_rfl) ?_
    refine EQ.code ?_
    refine EW.ret (by kernel_rfl) ?_
    simp only [Option.some.injEq, Prod.mk.injEq] at H
    obtain ⟨rfl, rfl, rfl⟩ := H
    exact EQ.leave (.slice A11016 l11015.length C11017) (by kernel_rfl) ⟨_, rfl, A11019, C11020, A11016, C11017, rfl, (hS.re [0, 1] [] rfl (sub_cons 0 rfl (sub_tail (sub_tail (sub_tail (sub_tail (sub_self)))))))⟩

/-! ### (*confidant/pack.Reader).Left: function 31 -/
def pack_Reader_Left.f (K : Nat) (l11051 : List Int) (a11054 : Int) : Option (List Int × Int × Int) := some (l11051, a11054, (l11051.length : Int))
set_option maxRecDepth 100000 in
theorem pack_Reader_Left.calls {K : Nat} {l11051 : List Int} {a11054 : Int} {g11050 : Nat} {A11052 : Option Addr} {C11053 : Nat} {x11055 : List Int} {x11058 : Int} {x11059 : Int} {B w : World} {os : List Ass} {rs : List Ro} (H : pack_Reader_Left.f K l11051 a11054 = some (x11055, x11058, x11059)) (hS : St B w (Ass.box 91 g11050 [.slice A11052 l11051.length C11053, .int .i64 a11054] :: os) (Ro.sl (Kd.int .u8) A11052 C11053 l11051 :: rs)) :
    Calls Try.prog 31 [.pointer (some ⟨g11050, 0, none⟩)].toArray w (fun en w' => ∃ v, en = .returned v ∧ ∃ A11056 : Option Addr, ∃ C11057 : Nat, v = .int .i64 x11059 ∧ St B w' (Ass.box 91 g11050 [.slice A11056 x11055.length C11057, .int .i64 x11058] :: os) (Ro.sl (Kd.int .u8) A11056 C11057 x11055 :: Ro.sl (Kd.int .u8) A11052 C11053 l11051 :: rs)) := by
  unfold pack_Reader_Left.f at H
  refine calls_of_EW (args := [.pointer (some ⟨g11050, 0, none⟩)]) (c := Cd31) 8 Try.func31 (by kernel_rfl) (by kernel_rfl) (by kernel_rfl) ?_
  refine EW.seq (x := Cd31.l) (y := Cd31.r) (by kernel_rfl) ?_
  refine EW.region (id := 0) (ops := Cd31.l.ops) (by kernel_rfl) ?_
  refine EL.quick 1 [0] [(0, .pointer (some ⟨g11050, 0, none⟩))] (by kernel_rfl) ?_
  refine EL.done (by kernel_rfl) ?_
  refine EQ.code ?_
  refine EW.seq (x := Cd31.r.l) (y := Cd31.r.r) (by kernel_rfl) ?_
  refine EW.region (id := 1) (ops := Cd31.r.l.ops) (by kernel_rfl) ?_
  refine EL.quick 3 [5] [(5, .pointer (some ⟨g11050, 0, none⟩))] (by kernel_rfl) ?_
  refine EL.of (EO.Y (YO.loadBox hS 0 rfl 22 0 1 (.slice A11052 l11051.length C11053) 6 (by kernel_rfl) (by kernel_rfl) (by kernel_rfl) (by kernel_rfl)) ?_)
  refine EL.quick 2 [2] [(2, .int .i64 (l11051.length : Int))] (by kernel_rfl) ?_
  refine EL.done (by kernel_rfl) ?_
  refine EQ.code ?_
  refine EW.ret (by kernel_rfl) ?_
  simp only [Option.some.injEq, Prod.mk.injEq] at H
  obtain ⟨rfl, rfl, rfl⟩ := H
  exact EQ.leave (.int .i64 (l11051.length : Int)) (by kernel_rfl) ⟨_, rfl, A11052, C11053, rfl, (hS.re [0] [] rfl (sub_cons 0 rfl (sub_self)))⟩

/-! ### (*confidant/pack.Reader).Err: function 30 -/
def pack_Reader_Err.f (K : Nat) (l11098 : List Int) (a11101 : Int) : Option (List Int × Int × Int) := some (l11098, a11101, a11101)
set_option maxRecDepth 100000 in
theorem pack_Reader_Err.calls {K : Nat} {l11098 : List Int} {a11101 : Int} {g11097 : Nat} {A11099 : Option Addr} {C11100 : Nat} {x11102 : List Int} {x11105 : Int} {x11106 : Int} {B w : World} {os : List Ass} {rs : List Ro} (H : pack_Reader_Err.f K l11098 a11101 = some (x11102, x11105, x11106)) (hS : St B w (Ass.box 91 g11097 [.slice A11099 l11098.length C11100, .int .i64 a11101] :: os) (Ro.sl (Kd.int .u8) A11099 C11100 l11098 :: rs)) :
    Calls Try.prog 30 [.pointer (some ⟨g11097, 0, none⟩)].toArray w (fun en w' => ∃ v, en = .returned v ∧ ∃ A11103 : Option Addr, ∃ C11104 : Nat, v = .int .i64 x11106 ∧ St B w' (Ass.box 91 g11097 [.slice A11103 x11102.length C11104, .int .i64 x11105] :: os) (Ro.sl (Kd.int .u8) A11103 C11104 x11102 :: Ro.sl (Kd.int .u8) A11099 C11100 l11098 :: rs)) := by
  unfold pack_Reader_Err.f at H
  refine calls_of_EW (args := [.pointer (some ⟨g11097, 0, none⟩)]) (c := Cd30) 7 Try.func30 (by kernel_rfl) (by kernel_rfl) (by kernel_rfl) ?_
  refine EW.seq (x := Cd30.l) (y := Cd30.r) (by kernel_rfl) ?_
  refine EW.region (id := 0) (ops := Cd30.l.ops) (by kernel_rfl) ?_
  refine EL.quick 1 [0] [(0, .pointer (some ⟨g11097, 0, none⟩))] (by kernel_rfl) ?_
  refine EL.done (by kernel_rfl) ?_
  refine EQ.code ?_
  refine EW.seq (x := Cd30.r.l) (y := Cd30.r.r) (by kernel_rfl) ?_
  refine EW.region (id := 1) (ops := Cd30.r.l.ops) (by kernel_rfl) ?_
  refine EL.quick 3 [5] [(5, .pointer (some ⟨g11097, 1, none⟩))] (by kernel_rfl) ?_
  refine EL.of (EO.Y (YO.loadBox hS 0 rfl 52 1 1 (.int .i64 a11101) 6 (by kernel_rfl) (by kernel_rfl) (by kernel_rfl) (by kernel_rfl)) ?_)
  refine EL.quick 1 [2] [(2, .int .i64 a11101)] (by kernel_rfl) ?_
  refine EL.done (by kernel_rfl) ?_
  refine EQ.code ?_
  refine EW.ret (by kernel_rfl) ?_
  simp only [Option.some.injEq, Prod.mk.injEq] at H
  obtain ⟨rfl, rfl, rfl⟩ := H
  exact EQ.leave (.int .i64 a11101) (by kernel_rfl) ⟨_, rfl, A11099, C11100, rfl, (hS.re [0] [] rfl (sub_cons 0 rfl (sub_self)))⟩

end Go.Proofs.Ytifnjijlbcacoaa.G
