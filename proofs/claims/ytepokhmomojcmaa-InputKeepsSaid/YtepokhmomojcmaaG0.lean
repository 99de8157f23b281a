import Derived.Test.YtepokhmomojcmaaProg
import Derived.Test.YtepokhmomojcmaaFwDeep
import Derived.Test.YtepokhmomojcmaaFwOpen
namespace Go.Proofs.Ytepokhmomojcmaa.G
open Go Go.Fw Go.RowKit Go.Proofs
set_option linter.unusedVariables false
set_option linter.unusedSimpArgs false

noncomputable def C12 : Code := bodyOf Try.f12

noncomputable def C38 : Code := bodyOf Try.f38

noncomputable def C39 : Code := bodyOf Try.f39

noncomputable def C40 : Code := bodyOf Try.f40

noncomputable def C41 : Code := bodyOf Try.f41

noncomputable def C42 : Code := bodyOf Try.f42

noncomputable def C52 : Code := bodyOf Try.f52

/-! ### slices.Clone[[]int32,int32]: function 52 -/
def slices_Clone_int32_int32.f (K : Nat) (l30 : List Int) : Option (List Int) := lt ([] : List Int) fun l61 => (if (l61.length + l30.length) * 4 ≤ 140737488355328 then (lt (l61 ++ l30) fun l63 => (some l63)) else none)
set_option maxRecDepth 100000 in
theorem slices_Clone_int32_int32.calls {K : Nat} {l30 : List Int} {A31 : Option Addr} {C32 : Nat} {x47 : List Int} {B w : World} {os : List Ass} {rs : List Ro} (H : slices_Clone_int32_int32.f K l30 = some x47) (hS : St B w (os) (Ro.sl (Kd.int .i32) A31 C32 l30 :: rs)) :
    Calls Try.prog 52 [.slice A31 l30.length C32].toArray w (fun en w' => ∃ v, en = .returned v ∧ ∃ A48 : Option Addr, ∃ C49 : Nat, v = .slice A48 x47.length C49 ∧ St B w' (Ass.own 21 (Kd.int .i32) A48 C49 x47 :: os) (Ro.sl (Kd.int .i32) A31 C32 l30 :: rs)) := by
  unfold slices_Clone_int32_int32.f at H
  refine calls_of_EW (args := [.slice A31 l30.length C32]) (c := C52) 8 Try.func52 (by kernel_rfl) (by kernel_rfl) (by kernel_rfl) ?_
  refine EW.seq (x := C52.l) (y := C52.r) (by kernel_rfl) ?_
  refine EW.region (id := 0) (ops := C52.l.ops) (by kernel_rfl) ?_
  refine EL.quick 1 [0] [(0, .slice A31 l30.length C32)] (by kernel_rfl) ?_
  refine EL.done (by kernel_rfl) ?_
  refine EQ.code ?_
  refine EW.seq (x := C52.r.l) (y := C52.r.r) (by kernel_rfl) ?_
  refine EW.seq (x := C52.r.l.l) (y := C52.r.l.r) (by kernel_rfl) ?_
  refine EW.region (id := 1) (ops := C52.r.l.l.ops) (by kernel_rfl) ?_
  refine EL.quick 1 [0, 3] [(0, .slice A31 l30.length C32), (3, .slice A31 l30.length C32)] (by kernel_rfl) ?_
  rcases A31 with _ | ad58
  · have h59 := St.rd_nil hS (Rd.ro 0 rfl)
    have H : (some ([] : List Int)) = some x47 := by simpa [lt, h59] using H
    refine EL.quick 1 [0, 4] [(0, .slice none l30.length C32), (4, .bool (true))] (by kernel_rfl) ?_
    refine EL.done (by kernel_rfl) ?_
    refine EQ.code ?_
    refine EW.condT (o := (.tmp 4)) (x := C52.r.l.r.l) (y := C52.r.l.r.r) (by kernel_rfl) (by kernel_rfl) ?_
    refine EW.seq (x := C52.r.l.r.l.l) (y := C52.r.l.r.l.r) (by kernel_rfl) ?_
    refine EW.region (id := 2) (ops := C52.r.l.r.l.l.ops) (by kernel_rfl) ?_
    refine EL.quick 1 [2] [(2, .slice none ([] : List Int).length 0)] (by kernel_rfl) ?_
    refine EL.done (by kernel_rfl) ?_
    refine EQ.code ?_
    refine EW.ret (by kernel_rfl) ?_
    refine EQ.ret ?_
    have hS := St.nilO hS 21 (Kd.int .i32)
    obtain rfl := Option.some.inj H
    exact EQ.leave (.slice none ([] : List Int).length 0) (by kernel_rfl) ⟨_, rfl, none, 0, rfl, (hS.re [0] [] rfl (sub_self))⟩
  · refine EL.quick 1 [0, 4] [(0, .slice (some ad58) l30.length C32), (4, .bool (false))] (by kernel_rfl) ?_
    refine EL.done (by kernel_rfl) ?_
    refine EQ.code ?_
    refine EW.condF (o := (.tmp 4)) (x := C52.r.l.r.l) (y := C52.r.l.r.r) (by kernel_rfl) (by kernel_rfl) ?_
    refine EW.skip (by kernel_rfl) ?_
    refine EQ.code ?_
    refine EW.seq (x := C52.r.r.l) (y := C52.r.r.r) (by kernel_rfl) ?_
    refine EW.region (id := 3) (ops := C52.r.r.l.ops) (by kernel_rfl) ?_
    obtain ⟨l61, hl61, H⟩ := lt_out H
    refine EL.of (EO.lit hS (Kd.int .i32) 21 40 0 #[] [] l61 5 (by kernel_rfl) (by kernel_rfl) (by kernel_rfl) (fun _ => (by kernel_rfl)) (by rw [hl61]; rfl) (by kernel_rfl) (fun w G hr => (by rw [hl61]; exact rfl)) ?_)
    intro g60 w hS
    refine EL.quick 1 [5, 6] [(5, .slice (some ⟨g60, 0, none⟩) l61.length 0), (6, .slice (some ad58) l30.length C32)] (by kernel_rfl) ?_
    obtain ⟨h62, H⟩ := ite_in H
    obtain ⟨l63, hl63, H⟩ := lt_out H
    refine EL.of (EO.append hS 40 40 21 4 0 (Kd.int .i32) (some ⟨g60, 0, none⟩) 0 l61 rfl (some ad58) C32 l30 (Rd.ro 0 rfl) l63 hl63 (fun A64 C65 => Ass.own 21 (Kd.int .i32) A64 C65 l63 :: os) 7 (by kernel_rfl) (by kernel_rfl) (by kernel_rfl) (by kernel_rfl) h62 (fun _ _ => rfl) ?_)
    intro A64 C65 w hS
    refine EL.quick 1 [2] [(2, .slice A64 l63.length C65)] (by kernel_rfl) ?_
    refine EL.done (by kernel_rfl) ?_
    refine EQ.code ?_
    refine EW.ret (by kernel_rfl) ?_
    obtain rfl := Option.some.inj H
    exact EQ.leave (.slice A64 l63.length C65) (by kernel_rfl) ⟨_, rfl, A64, C65, rfl, (hS.re [0] [] rfl (sub_self))⟩

/-! ### confidant/input.New: function 39 -/
def input_New.l0 (K : Nat) (l17 : List (List Int)) : Nat → (List (List Int)) → Int → Option (List (List Int))
  | 0, _, _ => none
  | n + 1, x336, x340 => if x340 < (l17.length : Int) then (if 0 ≤ x340 then (b1 (slices_Clone_int32_int32.f K (l17.getD x340.toNat [])) fun (t413 : List Int) => (if (x336.length + ([t413] : List (List Int)).length) * 24 ≤ 140737488355328 then (lt (x336 ++ ([t413] : List (List Int))) fun l419 => (input_New.l0 K l17 n l419 (IntKind.i64.wrap (x340 + 1)))) else none)) else none) else (some x336)
def input_New.f (K : Nat) (l17 : List (List Int)) : Option (List (List Int)) := input_New.l0 K l17 K ([] : List (List Int)) 0
set_option maxRecDepth 100000 in
theorem input_New.calls {K : Nat} {l17 : List (List Int)} {A18 : Option Addr} {C19 : Nat} {x237 : List (List Int)} {B w : World} {os : List Ass} {rs : List Ro} (H : input_New.f K l17 = some x237) (hS : St B w (os) (Ro.sl (Kd.slice (Kd.int .i32)) A18 C19 l17 :: rs)) :
    Calls Try.prog 39 [.slice A18 l17.length C19].toArray w (fun en w' => ∃ v, en = .returned v ∧ ∃ g236 : Nat, ∃ A238 : Option Addr, ∃ C239 : Nat, v = .pointer (some ⟨g236, 0, none⟩) ∧ St B w' (Ass.box 67 g236 [.slice A238 x237.length C239] :: Ass.deep 40 21 (Kd.int .i32) A238 C239 x237 :: os) (Ro.sl (Kd.slice (Kd.int .i32)) A18 C19 l17 :: rs)) := by
  unfold input_New.f at H
  refine calls_of_EW (args := [.slice A18 l17.length C19]) (c := C39) 27 Try.func39 (by kernel_rfl) (by kernel_rfl) (by kernel_rfl) ?_
  refine EW.seq (x := C39.l) (y := C39.r) (by kernel_rfl) ?_
  refine EW.region (id := 0) (ops := C39.l.ops) (by kernel_rfl) ?_
  refine EL.quick 1 [0] [(0, .slice A18 l17.length C19)] (by kernel_rfl) ?_
  refine EL.done (by kernel_rfl) ?_
  refine EQ.code ?_
  refine EW.seq (x := C39.r.l) (y := C39.r.r) (by kernel_rfl) ?_
  refine EW.region (id := 1) (ops := C39.r.l.ops) (by kernel_rfl) ?_
  refine EL.quick 1 [0, 6] [(0, .slice A18 l17.length C19), (6, .agg #[.slice none ([] : List (List Int)).length 0])] (by kernel_rfl) ?_
  refine EL.of (EO.box hS 67 (.agg #[.slice none ([] : List (List Int)).length 0]) [.slice none ([] : List (List Int)).length 0] 7 (by kernel_rfl) (by kernel_rfl) (by kernel_rfl) (by first | rfl | kernel_rfl) ?_)
  intro g243 w hS
  refine EL.quick 1 [0, 3] [(0, .slice A18 l17.length C19), (3, .pointer (some ⟨g243, 0, none⟩))] (by kernel_rfl) ?_
  refine EL.done (by kernel_rfl) ?_
  refine EQ.code ?_
  refine EW.seq (x := C39.r.r.l) (y := C39.r.r.r) (by kernel_rfl) ?_
  refine EW.seq (x := C39.r.r.l.l) (y := C39.r.r.l.r) (by kernel_rfl) ?_
  refine EW.region (id := 2) (ops := C39.r.r.l.l.ops) (by kernel_rfl) ?_
  refine EL.quick 3 [3, 8, 9, 10] [(3, .pointer (some ⟨g243, 0, none⟩)), (8, .slice A18 l17.length C19), (9, .int .i64 (l17.length : Int)), (10, .int .i64 0)] (by kernel_rfl) ?_
  refine EL.done (by kernel_rfl) ?_
  refine EQ.code ?_
  refine EW.block (x := C39.r.r.l.r.l) (id := 0) (by kernel_rfl) ?_
  have hS := St.nilDeep hS 40 21 (Kd.int .i32)
  refine EW.loop (x := C39.r.r.l.r.l.l) (fun n a w => ∃ x336 : List (List Int), ∃ x340 : Int, ∃ A337 : Option Addr, ∃ C338 : Nat, Sat 27 [(3, .pointer (some ⟨g243, 0, none⟩)), (8, .slice A18 l17.length C19), (9, .int .i64 (l17.length : Int)), (10, .int .i64 x340)] a ∧ St B w (Ass.box 67 g243 [.slice A337 x336.length C338] :: Ass.deep 40 21 (Kd.int .i32) A337 C338 x336 :: os) (Ro.sl (Kd.slice (Kd.int .i32)) A18 C19 l17 :: rs) ∧ input_New.l0 K l17 n x336 x340 = some x237) K (by kernel_rfl) ?_ (fun n a w hI => ?_)
  · refine EQ.keep [3, 8, 9, 10] [(3, .pointer (some ⟨g243, 0, none⟩)), (8, .slice A18 l17.length C19), (9, .int .i64 (l17.length : Int)), (10, .int .i64 0)] (by kernel_rfl) ?_
    exact fun a ha => ⟨([] : List (List Int)), 0, none, 0, ha, (hS.re [0, 1] [] rfl (sub_cons 0 rfl (sub_tail (sub_self)))), H⟩
  · obtain ⟨x336, x340, A337, C338, ha, hS, H⟩ := hI
    obtain _ | n := n
    · simp [input_New.l0] at H
    rw [input_New.l0.eq_2] at H
    refine EW.at ?_ a ha
    clear ha a
    refine EW.seq (x := C39.r.r.l.r.l.l.l) (y := C39.r.r.l.r.l.l.r) (by kernel_rfl) ?_
    refine EW.region (id := 3) (ops := C39.r.r.l.r.l.l.l.ops) (by kernel_rfl) ?_
    refine EL.quick 1 [3, 8, 9, 10, 11] [(3, .pointer (some ⟨g243, 0, none⟩)), (8, .slice A18 l17.length C19), (9, .int .i64 (l17.length : Int)), (10, .int .i64 x340), (11, .bool (decide (x340 < (l17.length : Int))))] (by kernel_rfl) ?_
    refine EL.done (by kernel_rfl) ?_
    refine EQ.code ?_
    refine EW.seq (x := C39.r.r.l.r.l.l.r.l) (y := C39.r.r.l.r.l.l.r.r) (by kernel_rfl) ?_
    refine EW.condP (o := (.tmp 11)) (x := C39.r.r.l.r.l.l.r.l.l) (y := C39.r.r.l.r.l.l.r.l.r) (x340 < (l17.length : Int)) (by kernel_rfl) (by kernel_rfl) (fun h387 => ?_) (fun h387 => ?_)
    · rw [if_pos h387] at H
      refine EW.skip (by kernel_rfl) ?_
      refine EQ.code ?_
      refine EW.seq (x := C39.r.r.l.r.l.l.r.r.l) (y := C39.r.r.l.r.l.l.r.r.r) (by kernel_rfl) ?_
      refine EW.block (x := C39.r.r.l.r.l.l.r.r.l.l) (id := 1) (by kernel_rfl) ?_
      refine EW.seq (x := C39.r.r.l.r.l.l.r.r.l.l.l) (y := C39.r.r.l.r.l.l.r.r.l.l.r) (by kernel_rfl) ?_
      refine EW.region (id := 4) (ops := C39.r.r.l.r.l.l.r.r.l.l.l.ops) (by kernel_rfl) ?_
      obtain ⟨h409, H⟩ := ite_in H
      obtain ⟨ad410, rfl⟩ := St.rd_some hS (Rd.ro 0 rfl) h409 h387
      refine EL.of (EO.Y (YO.idx 51 1 ad410 l17.length C19 .i64 x340 12 (by kernel_rfl) (by kernel_rfl) (by kernel_rfl) (by kernel_rfl) h409 h387) ?_)
      refine EL.of (EO.loadSl hS (Kd.int .i32) ad410 C19 l17 (Rd.ro 0 rfl) x340 h409 h387 40 13 (by kernel_rfl) (by kernel_rfl) (by kernel_rfl) (by kernel_rfl) ?_)
      intro A411 C412 hS
      refine EL.quick 1 [3, 5, 8, 9, 10] [(3, .pointer (some ⟨g243, 0, none⟩)), (5, .slice A411 (l17.getD x340.toNat []).length C412), (8, .slice (some ad410) l17.length C19), (9, .int .i64 (l17.length : Int)), (10, .int .i64 x340)] (by kernel_rfl) ?_
      refine EL.done (by kernel_rfl) ?_
      refine EQ.code ?_
      obtain ⟨t413, hc416, H⟩ := b1_out H
      obtain ⟨h418, H⟩ := ite_in H
      obtain ⟨l419, hl419, H⟩ := lt_out H
      refine EW.meet (id := 5) (ops := C39.r.r.l.r.l.l.r.r.l.l.r.ops) (fun a w => ∃ A435 : Option Addr, ∃ C436 : Nat, Sat 27 [(3, .pointer (some ⟨g243, 0, none⟩)), (8, .slice (some ad410) l17.length C19), (9, .int .i64 (l17.length : Int)), (10, .int .i64 x340)] a ∧ St B w (Ass.deep 40 21 (Kd.int .i32) A435 C436 l419 :: Ass.box 67 g243 [.slice A435 l419.length C436] :: os) (Ro.sl (Kd.int .i32) A411 C412 (l17.getD x340.toNat []) :: Ro.sl (Kd.int .i32) A411 C412 (l17.getD x340.toNat []) :: Ro.sl (Kd.slice (Kd.int .i32)) (some ad410) C19 l17 :: rs)) (by kernel_rfl) ?_ (fun a w hI => ?_)
      · have hS := hS.drew
        refine EW.draw (B := B) (id := 5) (ops := C39.r.r.l.r.l.l.r.r.l.l.r.ops) [] [Ro.sl (Kd.int .i32) A411 C412 (l17.getD x340.toNat []), Ro.sl (Kd.slice (Kd.int .i32)) (some ad410) C19 l17] (by kernel_rfl) (by kernel_rfl) ?_
        have hN : Region.noSelect C39.r.r.l.r.l.l.r.r.l.l.r.ops = true := (by kernel_rfl)
        have hF : freeAll C39.r.r.l.r.l.l.r.r.l.l.r.ops = true := (by kernel_rfl)
        have hC : Core B [] [Ro.sl (Kd.int .i32) A411 C412 (l17.getD x340.toNat []), Ro.sl (Kd.slice (Kd.int .i32)) (some ad410) C19 l17] _ := ⟨_, _, hS⟩
        refine ED.quick hN hF hC [0, 1, 2, 3, 5] [3, 8, 9, 10, 14, 17, 19] 7 [(3, .pointer (some ⟨g243, 0, none⟩)), (8, .slice (some ad410) l17.length C19), (9, .int .i64 (l17.length : Int)), (10, .int .i64 x340), (14, .pointer (some ⟨g243, 0, none⟩)), (17, .pointer (some ⟨g243, 0, none⟩)), (19, .slice A411 (l17.getD x340.toNat []).length C412)] #[true, true, true, true, false, true, false, false, false, false, false, false] (by kernel_rfl) (by kernel_rfl) ?_
        refine ED.two 4 6 6 (by kernel_rfl) (by kernel_rfl) ?_ ?_
        · refine EO.Y (YO.loadBox hS 0 rfl 51 0 1 (.slice A337 x336.length C338) 18 (by kernel_rfl) (by kernel_rfl) (by kernel_rfl) (by kernel_rfl)) ?_
          have hC : Core B [] [Ro.sl (Kd.int .i32) A411 C412 (l17.getD x340.toNat []), Ro.sl (Kd.slice (Kd.int .i32)) (some ad410) C19 l17] _ := ⟨_, _, hS⟩
          refine ⟨hC, ?_⟩
          refine ED.at' #[true, true, true, true, true, true, false, false, false, false, false, false] (by kernel_rfl) ?_
          have hS : St B _ (Ass.box 67 g243 [.slice A337 x336.length C338] :: Ass.deep 40 21 (Kd.int .i32) A337 C338 x336 :: os) (Ro.sl (Kd.int .i32) A411 C412 (l17.getD x340.toNat []) :: Ro.sl (Kd.int .i32) A411 C412 (l17.getD x340.toNat []) :: Ro.sl (Kd.slice (Kd.int .i32)) (some ad410) C19 l17 :: rs) := hS.re [] [] rfl (sub_cons 0 rfl sub_self)
          refine ED.one 6 5 #[true, true, true, true, true, true, true, false, false, false, false, false] (by kernel_rfl) (by kernel_rfl) (by kernel_rfl) (EO.callD 52 [.slice A411 (l17.getD x340.toNat []).length C412] _ 20 (by kernel_rfl) (by kernel_rfl) (by kernel_rfl) (slices_Clone_int32_int32.calls hc416 hS) ?_)
          rintro v w ⟨A437, C438, rfl, hS⟩
          have hC : Core B [] [Ro.sl (Kd.int .i32) A411 C412 (l17.getD x340.toNat []), Ro.sl (Kd.slice (Kd.int .i32)) (some ad410) C19 l17] _ := ⟨_, _, hS.re [] [] rfl (sub_cons 0 rfl (sub_cons 2 rfl sub_self))⟩
          refine ⟨hC, ?_⟩
          refine ED.one 7 4 #[true, true, true, true, true, true, true, true, false, false, false, false] (by kernel_rfl) (by kernel_rfl) (by kernel_rfl) (EO.lit (xs := ([(A437, t413.length, C438)] : List Hdr)) hS Kd.hdr 40 51 1 #[(0, .slice A437 t413.length C438)] [.slice A437 t413.length C438] 21 (by kernel_rfl) (by kernel_rfl) (by kernel_rfl) (fun _ => (by kernel_rfl)) rfl (by kernel_rfl) (fun w G hr => ⟨[.slice A437 t413.length C438], [], rfl, rfl, rfl⟩) ?_)
          intro g439 w hS
          have hC : Core B [] [Ro.sl (Kd.int .i32) A411 C412 (l17.getD x340.toNat []), Ro.sl (Kd.slice (Kd.int .i32)) (some ad410) C19 l17] _ := ⟨_, _, hS.re [] [] rfl (sub_cons 0 rfl (sub_cons 2 rfl sub_self))⟩
          refine ⟨hC, ?_⟩
          have hS : St B _ (Ass.deep 40 21 (Kd.int .i32) (some ⟨g439, 0, none⟩) 1 ([t413] : List (List Int)) :: Ass.box 67 g243 [.slice A337 x336.length C338] :: Ass.deep 40 21 (Kd.int .i32) A337 C338 x336 :: os) (Ro.sl (Kd.int .i32) A411 C412 (l17.getD x340.toNat []) :: Ro.sl (Kd.int .i32) A411 C412 (l17.getD x340.toNat []) :: Ro.sl (Kd.slice (Kd.int .i32)) (some ad410) C19 l17 :: rs) := St.fold (B := B) (os := _) (rs := _) (et := 40) (et' := 21) (K := (Kd.int .i32)) (hs := [(A437, t413.length, C438)]) (xs := ([t413] : List (List Int))) ⟨rfl, trivial⟩ (St.re hS [1, 1] [] rfl sub_self)
          refine ED.one 8 3 #[true, true, true, true, true, true, true, true, true, false, false, false] (by kernel_rfl) (by kernel_rfl) (by kernel_rfl) (EO.appendDeep hS 51 51 24 2 0 (Kd.int .i32) A337 C338 x336 rfl (some ⟨g439, 0, none⟩) 1 ([t413] : List (List Int)) rfl l419 hl419 (fun A440 C441 => Ass.deep 40 21 (Kd.int .i32) A440 C441 l419 :: Ass.box 67 g243 [.slice A337 x336.length C338] :: os) 22 (by kernel_rfl) (by kernel_rfl) (by kernel_rfl) (by kernel_rfl) h418 (fun _ _ => rfl) ?_)
          intro A440 C441 w hS
          have hC : Core B [] [Ro.sl (Kd.int .i32) A411 C412 (l17.getD x340.toNat []), Ro.sl (Kd.slice (Kd.int .i32)) (some ad410) C19 l17] _ := ⟨_, _, hS.re [] [] rfl (sub_cons 0 rfl (sub_cons 2 rfl sub_self))⟩
          refine ⟨hC, ?_⟩
          refine ED.quick hN hF hC [9, 10] [3, 8, 9, 10, 22, 24] 1 [(3, .pointer (some ⟨g243, 0, none⟩)), (8, .slice (some ad410) l17.length C19), (9, .int .i64 (l17.length : Int)), (10, .int .i64 x340), (22, .slice A440 l419.length C441), (24, .pointer (some ⟨g243, 0, none⟩))] #[true, true, true, true, true, true, true, true, true, true, true, false] (by kernel_rfl) (by kernel_rfl) ?_
          refine ED.one 11 0 #[true, true, true, true, true, true, true, true, true, true, true, true] (by kernel_rfl) (by kernel_rfl) (by kernel_rfl) (EO.storeBox (os' := Ass.deep 40 21 (Kd.int .i32) A440 C441 l419 :: Ass.box 67 g243 [.slice A440 l419.length C441] :: os) hS 1 rfl 51 0 (.slice A440 l419.length C441) [.slice A440 l419.length C441] (by kernel_rfl) (by kernel_rfl) (by kernel_rfl) (by kernel_rfl) (by kernel_rfl) (by kernel_rfl) rfl rfl ?_)
          intro w hS
          have hC : Core B [] [Ro.sl (Kd.int .i32) A411 C412 (l17.getD x340.toNat []), Ro.sl (Kd.slice (Kd.int .i32)) (some ad410) C19 l17] _ := ⟨_, _, hS.re [] [] rfl (sub_cons 0 rfl (sub_cons 2 rfl sub_self))⟩
          refine ⟨hC, ?_⟩
          refine ED.done (by kernel_rfl) ?_
          refine EQ.to ?_
          refine EQ.keep [3, 8, 9, 10] [(3, .pointer (some ⟨g243, 0, none⟩)), (8, .slice (some ad410) l17.length C19), (9, .int .i64 (l17.length : Int)), (10, .int .i64 x340)] (by kernel_rfl) ?_
          exact fun a ha => ⟨A440, C441, ha, (hS.re [1, 1] [] rfl (sub_cons 0 rfl (sub_cons 0 rfl (sub_cons 2 rfl (sub_tail (sub_tail (sub_tail (sub_self))))))))⟩
        · have hS : St B _ (Ass.box 67 g243 [.slice A337 x336.length C338] :: Ass.deep 40 21 (Kd.int .i32) A337 C338 x336 :: os) (Ro.sl (Kd.int .i32) A411 C412 (l17.getD x340.toNat []) :: Ro.sl (Kd.int .i32) A411 C412 (l17.getD x340.toNat []) :: Ro.sl (Kd.slice (Kd.int .i32)) (some ad410) C19 l17 :: rs) := hS.re [] [] rfl (sub_cons 0 rfl sub_self)
          refine EO.callD 52 [.slice A411 (l17.getD x340.toNat []).length C412] _ 20 (by kernel_rfl) (by kernel_rfl) (by kernel_rfl) (slices_Clone_int32_int32.calls hc416 hS) ?_
          rintro v w ⟨A442, C443, rfl, hS⟩
          have hC : Core B [] [Ro.sl (Kd.int .i32) A411 C412 (l17.getD x340.toNat []), Ro.sl (Kd.slice (Kd.int .i32)) (some ad410) C19 l17] _ := ⟨_, _, hS.re [] [] rfl (sub_cons 0 rfl (sub_cons 2 rfl sub_self))⟩
          refine ⟨hC, ?_⟩
          refine ED.at' #[true, true, true, true, false, true, true, false, false, false, false, false] (by kernel_rfl) ?_
          refine ED.two 4 7 5 (by kernel_rfl) (by kernel_rfl) ?_ ?_
          · refine EO.Y (YO.loadBox hS 1 rfl 51 0 1 (.slice A337 x336.length C338) 18 (by kernel_rfl) (by kernel_rfl) (by kernel_rfl) (by kernel_rfl)) ?_
            have hC : Core B [] [Ro.sl (Kd.int .i32) A411 C412 (l17.getD x340.toNat []), Ro.sl (Kd.slice (Kd.int .i32)) (some ad410) C19 l17] _ := ⟨_, _, hS.re [] [] rfl (sub_cons 0 rfl (sub_cons 2 rfl sub_self))⟩
            refine ⟨hC, ?_⟩
            refine ED.at' #[true, true, true, true, true, true, true, false, false, false, false, false] (by kernel_rfl) ?_
            refine ED.one 7 4 #[true, true, true, true, true, true, true, true, false, false, false, false] (by kernel_rfl) (by kernel_rfl) (by kernel_rfl) (EO.lit (xs := ([(A442, t413.length, C443)] : List Hdr)) hS Kd.hdr 40 51 1 #[(0, .slice A442 t413.length C443)] [.slice A442 t413.length C443] 21 (by kernel_rfl) (by kernel_rfl) (by kernel_rfl) (fun _ => (by kernel_rfl)) rfl (by kernel_rfl) (fun w G hr => ⟨[.slice A442 t413.length C443], [], rfl, rfl, rfl⟩) ?_)
            intro g444 w hS
            have hC : Core B [] [Ro.sl (Kd.int .i32) A411 C412 (l17.getD x340.toNat []), Ro.sl (Kd.slice (Kd.int .i32)) (some ad410) C19 l17] _ := ⟨_, _, hS.re [] [] rfl (sub_cons 0 rfl (sub_cons 2 rfl sub_self))⟩
            refine ⟨hC, ?_⟩
            have hS : St B _ (Ass.deep 40 21 (Kd.int .i32) (some ⟨g444, 0, none⟩) 1 ([t413] : List (List Int)) :: Ass.box 67 g243 [.slice A337 x336.length C338] :: Ass.deep 40 21 (Kd.int .i32) A337 C338 x336 :: os) (Ro.sl (Kd.int .i32) A411 C412 (l17.getD x340.toNat []) :: Ro.sl (Kd.int .i32) A411 C412 (l17.getD x340.toNat []) :: Ro.sl (Kd.slice (Kd.int .i32)) (some ad410) C19 l17 :: rs) := St.fold (B := B) (os := _) (rs := _) (et := 40) (et' := 21) (K := (Kd.int .i32)) (hs := [(A442, t413.length, C443)]) (xs := ([t413] : List (List Int))) ⟨rfl, trivial⟩ (St.re hS [1, 1] [] rfl sub_self)
            refine ED.one 8 3 #[true, true, true, true, true, true, true, true, true, false, false, false] (by kernel_rfl) (by kernel_rfl) (by kernel_rfl) (EO.appendDeep hS 51 51 24 2 0 (Kd.int .i32) A337 C338 x336 rfl (some ⟨g444, 0, none⟩) 1 ([t413] : List (List Int)) rfl l419 hl419 (fun A445 C446 => Ass.deep 40 21 (Kd.int .i32) A445 C446 l419 :: Ass.box 67 g243 [.slice A337 x336.length C338] :: os) 22 (by kernel_rfl) (by kernel_rfl) (by kernel_rfl) (by kernel_rfl) h418 (fun _ _ => rfl) ?_)
            intro A445 C446 w hS
            have hC : Core B [] [Ro.sl (Kd.int .i32) A411 C412 (l17.getD x340.toNat []), Ro.sl (Kd.slice (Kd.int .i32)) (some ad410) C19 l17] _ := ⟨_, _, hS.re [] [] rfl (sub_cons 0 rfl (sub_cons 2 rfl sub_self))⟩
            refine ⟨hC, ?_⟩
            refine ED.quick hN hF hC [9, 10] [3, 8, 9, 10, 22, 24] 1 [(3, .pointer (some ⟨g243, 0, none⟩)), (8, .slice (some ad410) l17.length C19), (9, .int .i64 (l17.length : Int)), (10, .int .i64 x340), (22, .slice A445 l419.length C446), (24, .pointer (some ⟨g243, 0, none⟩))] #[true, true, true, true, true, true, true, true, true, true, true, false] (by kernel_rfl) (by kernel_rfl) ?_
            refine ED.one 11 0 #[true, true, true, true, true, true, true, true, true, true, true, true] (by kernel_rfl) (by kernel_rfl) (by kernel_rfl) (EO.storeBox (os' := Ass.deep 40 21 (Kd.int .i32) A445 C446 l419 :: Ass.box 67 g243 [.slice A445 l419.length C446] :: os) hS 1 rfl 51 0 (.slice A445 l419.length C446) [.slice A445 l419.length C446] (by kernel_rfl) (by kernel_rfl) (by kernel_rfl) (by kernel_rfl) (by kernel_rfl) (by kernel_rfl) rfl rfl ?_)
            intro w hS
            have hC : Core B [] [Ro.sl (Kd.int .i32) A411 C412 (l17.getD x340.toNat []), Ro.sl (Kd.slice (Kd.int .i32)) (some ad410) C19 l17] _ := ⟨_, _, hS.re [] [] rfl (sub_cons 0 rfl (sub_cons 2 rfl sub_self))⟩
            refine ⟨hC, ?_⟩
            refine ED.done (by kernel_rfl) ?_
            refine EQ.to ?_
            refine EQ.keep [3, 8, 9, 10] [(3, .pointer (some ⟨g243, 0, none⟩)), (8, .slice (some ad410) l17.length C19), (9, .int .i64 (l17.length : Int)), (10, .int .i64 x340)] (by kernel_rfl) ?_
            exact fun a ha => ⟨A445, C446, ha, (hS.re [1, 1] [] rfl (sub_cons 0 rfl (sub_cons 0 rfl (sub_cons 2 rfl (sub_tail (sub_tail (sub_tail (sub_self))))))))⟩
          · refine EO.lit (xs := ([(A442, t413.length, C443)] : List Hdr)) hS Kd.hdr 40 51 1 #[(0, .slice A442 t413.length C443)] [.slice A442 t413.length C443] 21 (by kernel_rfl) (by kernel_rfl) (by kernel_rfl) (fun _ => (by kernel_rfl)) rfl (by kernel_rfl) (fun w G hr => ⟨[.slice A442 t413.length C443], [], rfl, rfl, rfl⟩) ?_
            intro g447 w hS
            have hC : Core B [] [Ro.sl (Kd.int .i32) A411 C412 (l17.getD x340.toNat []), Ro.sl (Kd.slice (Kd.int .i32)) (some ad410) C19 l17] _ := ⟨_, _, hS.re [] [] rfl (sub_cons 0 rfl (sub_cons 2 rfl sub_self))⟩
            refine ⟨hC, ?_⟩
            refine ED.at' #[true, true, true, true, false, true, true, true, false, false, false, false] (by kernel_rfl) ?_
            refine ED.one 4 4 #[true, true, true, true, true, true, true, true, false, false, false, false] (by kernel_rfl) (by kernel_rfl) (by kernel_rfl) (EO.Y (YO.loadBox hS 2 rfl 51 0 1 (.slice A337 x336.length C338) 18 (by kernel_rfl) (by kernel_rfl) (by kernel_rfl) (by kernel_rfl)) ?_)
            have hC : Core B [] [Ro.sl (Kd.int .i32) A411 C412 (l17.getD x340.toNat []), Ro.sl (Kd.slice (Kd.int .i32)) (some ad410) C19 l17] _ := ⟨_, _, hS.re [] [] rfl (sub_cons 0 rfl (sub_cons 2 rfl sub_self))⟩
            refine ⟨hC, ?_⟩
            have hS : St B _ (Ass.deep 40 21 (Kd.int .i32) (some ⟨g447, 0, none⟩) 1 ([t413] : List (List Int)) :: Ass.box 67 g243 [.slice A337 x336.length C338] :: Ass.deep 40 21 (Kd.int .i32) A337 C338 x336 :: os) (Ro.sl (Kd.int .i32) A411 C412 (l17.getD x340.toNat []) :: Ro.sl (Kd.int .i32) A411 C412 (l17.getD x340.toNat []) :: Ro.sl (Kd.slice (Kd.int .i32)) (some ad410) C19 l17 :: rs) := St.fold (B := B) (os := _) (rs := _) (et := 40) (et' := 21) (K := (Kd.int .i32)) (hs := [(A442, t413.length, C443)]) (xs := ([t413] : List (List Int))) ⟨rfl, trivial⟩ (St.re hS [1, 1] [] rfl sub_self)
            refine ED.one 8 3 #[true, true, true, true, true, true, true, true, true, false, false, false] (by kernel_rfl) (by kernel_rfl) (by kernel_rfl) (EO.appendDeep hS 51 51 24 2 0 (Kd.int .i32) A337 C338 x336 rfl (some ⟨g447, 0, none⟩) 1 ([t413] : List (List Int)) rfl l419 hl419 (fun A448 C449 => Ass.deep 40 21 (Kd.int .i32) A448 C449 l419 :: Ass.box 67 g243 [.slice A337 x336.length C338] :: os) 22 (by kernel_rfl) (by kernel_rfl) (by kernel_rfl) (by kernel_rfl) h418 (fun _ _ => rfl) ?_)
            intro A448 C449 w hS
            have hC : Core B [] [Ro.sl (Kd.int .i32) A411 C412 (l17.getD x340.toNat []), Ro.sl (Kd.slice (Kd.int .i32)) (some ad410) C19 l17] _ := ⟨_, _, hS.re [] [] rfl (sub_cons 0 rfl (sub_cons 2 rfl sub_self))⟩
            refine ⟨hC, ?_⟩
            refine ED.quick hN hF hC [9, 10] [3, 8, 9, 10, 22, 24] 1 [(3, .pointer (some ⟨g243, 0, none⟩)), (8, .slice (some ad410) l17.length C19), (9, .int .i64 (l17.length : Int)), (10, .int .i64 x340), (22, .slice A448 l419.length C449), (24, .pointer (some ⟨g243, 0, none⟩))] #[true, true, true, true, true, true, true, true, true, true, true, false] (by kernel_rfl) (by kernel_rfl) ?_
            refine ED.one 11 0 #[true, true, true, true, true, true, true, true, true, true, true, true] (by kernel_rfl) (by kernel_rfl) (by kernel_rfl) (EO.storeBox (os' := Ass.deep 40 21 (Kd.int .i32) A448 C449 l419 :: Ass.box 67 g243 [.slice A448 l419.length C449] :: os) hS 1 rfl 51 0 (.slice A448 l419.length C449) [.slice A448 l419.length C449] (by kernel_rfl) (by kernel_rfl) (by kernel_rfl) (by kernel_rfl) (by kernel_rfl) (by kernel_rfl) rfl rfl ?_)
            intro w hS
            have hC : Core B [] [Ro.sl (Kd.int .i32) A411 C412 (l17.getD x340.toNat []), Ro.sl (Kd.slice (Kd.int .i32)) (some ad410) C19 l17] _ := ⟨_, _, hS.re [] [] rfl (sub_cons 0 rfl (sub_cons 2 rfl sub_self))⟩
            refine ⟨hC, ?_⟩
            refine ED.done (by kernel_rfl) ?_
            refine EQ.to ?_
            refine EQ.keep [3, 8, 9, 10] [(3, .pointer (some ⟨g243, 0, none⟩)), (8, .slice (some ad410) l17.length C19), (9, .int .i64 (l17.length : Int)), (10, .int .i64 x340)] (by kernel_rfl) ?_
            exact fun a ha => ⟨A448, C449, ha, (hS.re [1, 1] [] rfl (sub_cons 0 rfl (sub_cons 0 rfl (sub_cons 2 rfl (sub_tail (sub_tail (sub_tail (sub_self))))))))⟩
      · obtain ⟨A435, C436, ha, hS⟩ := hI
        refine EQ.at ?_ a ha
        clear ha a
        refine EQ.pop ?_
        refine EQ.code ?_
        refine EW.region (id := 6) (ops := C39.r.r.l.r.l.l.r.r.r.ops) (by kernel_rfl) ?_
        refine EL.quick 2 [3, 8, 9, 10] [(3, .pointer (some ⟨g243, 0, none⟩)), (8, .slice (some ad410) l17.length C19), (9, .int .i64 (l17.length : Int)), (10, .int .i64 (IntKind.i64.wrap (x340 + 1)))] (by kernel_rfl) ?_
        refine EL.done (by kernel_rfl) ?_
        refine EQ.to ?_
        refine EQ.keep [3, 8, 9, 10] [(3, .pointer (some ⟨g243, 0, none⟩)), (8, .slice (some ad410) l17.length C19), (9, .int .i64 (l17.length : Int)), (10, .int .i64 (IntKind.i64.wrap (x340 + 1)))] (by kernel_rfl) ?_
        exact fun a ha => ⟨n, Nat.lt_succ_self n, l419, IntKind.i64.wrap (x340 + 1), A435, C436, ha, (hS.re [0, 1] [] rfl (sub_cons 2 rfl (sub_tail (sub_tail (sub_tail (sub_self)))))), H⟩
    · rw [if_neg h387] at H
      refine EW.exit (id := 0) (by kernel_rfl) ?_
      refine EQ.exitCode ?_
      refine EQ.exitTo ?_
      refine EQ.exitHere ?_
      refine EQ.code ?_
      refine EW.seq (x := C39.r.r.r.l) (y := C39.r.r.r.r) (by kernel_rfl) ?_
      refine EW.region (id := 7) (ops := C39.r.r.r.l.ops) (by kernel_rfl) ?_
      refine EL.quick 2 [2] [(2, .pointer (some ⟨g243, 0, none⟩))] (by kernel_rfl) ?_
      refine EL.done (by kernel_rfl) ?_
      refine EQ.code ?_
      refine EW.ret (by kernel_rfl) ?_
      obtain rfl := Option.some.inj H
      exact EQ.leave (.pointer (some ⟨g243, 0, none⟩)) (by kernel_rfl) ⟨_, rfl, g243, A337, C338, rfl, (hS.re [1, 1] [] rfl (sub_self))⟩

/-! ### (*confidant/input.Inputs).Len: function 42 -/
def input_Inputs_Len.f (K : Nat) (l475 : List (List Int)) (a479 : Int) : Option Int := lt (fun (x510 : Bool) => (if x510 = true then (some 0) else (if 0 ≤ a479 then (if a479 < (l475.length : Int) then (some ((l475.getD a479.toNat []).length : Int)) else none) else none))) fun j511 => (if a479 < 0 then (j511 true) else (j511 (decide (a479 ≥ (l475.length : Int)))))
set_option maxRecDepth 100000 in
theorem input_Inputs_Len.calls {K : Nat} {l475 : List (List Int)} {a479 : Int} {g474 : Nat} {A476 : Option Addr} {C477 : Nat} {x499 : Int} {B w : World} {os : List Ass} {rs : List Ro} (H : input_Inputs_Len.f K l475 a479 = some x499) (hS : St B w (Ass.box 67 g474 [.slice A476 l475.length C477] :: Ass.deep 40 21 (Kd.int .i32) A476 C477 l475 :: os) (rs)) :
    Calls Try.prog 42 [.pointer (some ⟨g474, 0, none⟩), .int .i64 a479].toArray w (fun en w' => ∃ v, en = .returned v ∧ v = .int .i64 x499 ∧ St B w' (Ass.box 67 g474 [.slice A476 l475.length C477] :: Ass.deep 40 21 (Kd.int .i32) A476 C477 l475 :: os) (rs)) := by
  unfold input_Inputs_Len.f at H
  refine calls_of_EW (args := [.pointer (some ⟨g474, 0, none⟩), .int .i64 a479]) (c := C42) 24 Try.func42 (by kernel_rfl) (by kernel_rfl) (by kernel_rfl) ?_
  refine EW.seq (x := C42.l) (y := C42.r) (by kernel_rfl) ?_
  refine EW.region (id := 0) (ops := C42.l.ops) (by kernel_rfl) ?_
  refine EL.quick 1 [0, 1] [(0, .pointer (some ⟨g474, 0, none⟩)), (1, .int .i64 a479)] (by kernel_rfl) ?_
  refine EL.done (by kernel_rfl) ?_
  refine EQ.code ?_
  refine EW.seq (x := C42.r.l) (y := C42.r.r) (by kernel_rfl) ?_
  obtain ⟨j511, hj511, H⟩ := lt_out H
  refine EW.cut (x := C42.r.l.l) (y := C42.r.l.r) (fun a w => ∃ x510 : Bool, Sat 24 [(0, .pointer (some ⟨g474, 0, none⟩)), (1, .int .i64 a479), (15, .bool (x510))] a ∧ St B w (Ass.box 67 g474 [.slice A476 l475.length C477] :: Ass.deep 40 21 (Kd.int .i32) A476 C477 l475 :: os) (rs) ∧ j511 x510 = some x499) (by kernel_rfl) ?_ (fun a w hI => ?_)
  · refine EW.region (id := 1) (ops := C42.r.l.l.ops) (by kernel_rfl) ?_
    refine EL.quick 3 [0, 1, 7] [(0, .pointer (some ⟨g474, 0, none⟩)), (1, .int .i64 a479), (7, .bool (decide (a479 < 0)))] (by kernel_rfl) ?_
    by_cases h512 : a479 < 0
    · rw [if_pos h512] at H
      refine EL.keep [0, 1, 7] [(0, .pointer (some ⟨g474, 0, none⟩)), (1, .int .i64 a479), (7, .bool (decide (a479 < 0)))] (by kernel_rfl) ?_
      refine EL.as' [(0, .pointer (some ⟨g474, 0, none⟩)), (1, .int .i64 a479), (7, .bool (true))] (by simp only [dec_t h512, Bool.not_true, Bool.not_false]) ?_
      refine EL.quick 8 [0, 1, 15] [(0, .pointer (some ⟨g474, 0, none⟩)), (1, .int .i64 a479), (15, .bool (true))] (by kernel_rfl) ?_
      refine EL.done (by kernel_rfl) ?_
      refine EQ.to ?_
      refine EQ.keep [0, 1, 15] [(0, .pointer (some ⟨g474, 0, none⟩)), (1, .int .i64 a479), (15, .bool (true))] (by kernel_rfl) ?_
      exact fun a ha => ⟨true, ha, (hS.re [1, 1] [] rfl (sub_self)), H⟩
    · rw [if_neg h512] at H
      refine EL.keep [0, 1, 7] [(0, .pointer (some ⟨g474, 0, none⟩)), (1, .int .i64 a479), (7, .bool (decide (a479 < 0)))] (by kernel_rfl) ?_
      refine EL.as' [(0, .pointer (some ⟨g474, 0, none⟩)), (1, .int .i64 a479), (7, .bool (false))] (by simp only [dec_f h512, Bool.not_true, Bool.not_false]) ?_
      refine EL.quick 4 [0, 1, 7, 8, 11] [(0, .pointer (some ⟨g474, 0, none⟩)), (1, .int .i64 a479), (7, .bool (false)), (8, .int .i64 a479), (11, .pointer (some ⟨g474, 0, none⟩))] (by kernel_rfl) ?_
      refine EL.of (EO.Y (YO.loadBox hS 0 rfl 51 0 1 (.slice A476 l475.length C477) 12 (by kernel_rfl) (by kernel_rfl) (by kernel_rfl) (by kernel_rfl)) ?_)
      refine EL.quick 3 [0, 1, 15] [(0, .pointer (some ⟨g474, 0, none⟩)), (1, .int .i64 a479), (15, .bool (decide (a479 ≥ (l475.length : Int))))] (by kernel_rfl) ?_
      refine EL.done (by kernel_rfl) ?_
      refine EQ.to ?_
      refine EQ.keep [0, 1, 15] [(0, .pointer (some ⟨g474, 0, none⟩)), (1, .int .i64 a479), (15, .bool (decide (a479 ≥ (l475.length : Int))))] (by kernel_rfl) ?_
      exact fun a ha => ⟨decide (a479 ≥ (l475.length : Int)), ha, (hS.re [1, 1] [] rfl (sub_self)), H⟩
  · obtain ⟨x510, ha, hS, H⟩ := hI
    rw [hj511] at H
    (try dsimp only at H)
    refine EW.at ?_ a ha
    clear ha a
    refine EW.condP' (o := (.tmp 15)) (x := C42.r.l.r.l) (y := C42.r.l.r.r) (x510) (by kernel_rfl) (by kernel_rfl) (fun h513 => ?_) (fun h513 => ?_)
    · rw [if_pos h513] at H
      refine EW.seq (x := C42.r.l.r.l.l) (y := C42.r.l.r.l.r) (by kernel_rfl) ?_
      refine EW.region (id := 2) (ops := C42.r.l.r.l.l.ops) (by kernel_rfl) ?_
      refine EL.quick 1 [4] [(4, .int .i64 0)] (by kernel_rfl) ?_
      refine EL.done (by kernel_rfl) ?_
      refine EQ.code ?_
      refine EW.ret (by kernel_rfl) ?_
      refine EQ.ret ?_
      obtain rfl := Option.some.inj H
      exact EQ.leave (.int .i64 0) (by kernel_rfl) ⟨_, rfl, rfl, (hS.re [1, 1] [] rfl (sub_self))⟩
    · rw [if_neg h513] at H
      refine EW.skip (by kernel_rfl) ?_
      refine EQ.code ?_
      refine EW.seq (x := C42.r.r.l) (y := C42.r.r.r) (by kernel_rfl) ?_
      refine EW.region (id := 3) (ops := C42.r.r.l.ops) (by kernel_rfl) ?_
      refine EL.quick 3 [1, 18] [(1, .int .i64 a479), (18, .pointer (some ⟨g474, 0, none⟩))] (by kernel_rfl) ?_
      refine EL.of (EO.Y (YO.loadBox hS 0 rfl 51 0 1 (.slice A476 l475.length C477) 19 (by kernel_rfl) (by kernel_rfl) (by kernel_rfl) (by kernel_rfl)) ?_)
      refine EL.quick 1 [19, 20] [(19, .slice A476 l475.length C477), (20, .int .i64 a479)] (by kernel_rfl) ?_
      obtain ⟨h514, H⟩ := ite_in H
      obtain ⟨h515, H⟩ := ite_in H
      obtain ⟨ad516, rfl⟩ := St.deep_some hS 1 rfl h514 h515
      refine EL.of (EO.Y (YO.idx 51 1 ad516 l475.length C477 .i64 a479 21 (by kernel_rfl) (by kernel_rfl) (by kernel_rfl) (by kernel_rfl) h514 h515) ?_)
      refine EL.of (EO.openEl hS 1 ad516 rfl a479 h514 h515 (fun A517 C518 => Ass.box 67 g474 [.slice (some ad516) l475.length C477] :: Ass.holed 40 21 (Kd.int .i32) (some ad516) C477 l475 a479.toNat (A517, (l475.getD a479.toNat []).length, C518) :: os) 40 22 (by kernel_rfl) (by kernel_rfl) (by kernel_rfl) (by kernel_rfl) (fun _ _ => rfl) ?_)
      intro A517 C518 hS
      refine EL.quick 2 [4] [(4, .int .i64 ((l475.getD a479.toNat []).length : Int))] (by kernel_rfl) ?_
      refine EL.done (by kernel_rfl) ?_
      refine EQ.code ?_
      refine EW.ret (by kernel_rfl) ?_
      have hS := St.close hS 0 1 rfl rfl rfl l475 (set_getD _ _)
      obtain rfl := Option.some.inj H
      exact EQ.leave (.int .i64 ((l475.getD a479.toNat []).length : Int)) (by kernel_rfl) ⟨_, rfl, rfl, (hS.re [1, 1] [] rfl (sub_self))⟩

/-! ### (*confidant/input.Inputs).Get: function 40 -/
def input_Inputs_Get.f (K : Nat) (l466 : List (List Int)) (a470 : Int) (a471 : Int) : Option (Int × Bool) := lt (fun (x574 : Bool) => (if x574 = true then (some (0, false)) else (if 0 ≤ a470 then (if a470 < (l466.length : Int) then (if 0 ≤ a471 then (if a471 < ((l466.getD a470.toNat []).length : Int) then (some (((l466.getD a470.toNat []).getD a471.toNat 0), true)) else none) else none) else none) else none))) fun j575 => (if a471 < 0 then (j575 true) else (b1 (input_Inputs_Len.f K l466 a470) fun (t577 : Int) => (j575 (decide ((IntKind.i64.wrap a471) ≥ t577)))))
set_option maxRecDepth 100000 in
theorem input_Inputs_Get.calls {K : Nat} {l466 : List (List Int)} {a470 : Int} {a471 : Int} {g465 : Nat} {A467 : Option Addr} {C468 : Nat} {x552 : Int} {x553 : Bool} {B w : World} {os : List Ass} {rs : List Ro} (H : input_Inputs_Get.f K l466 a470 a471 = some (x552, x553)) (hS : St B w (Ass.box 67 g465 [.slice A467 l466.length C468] :: Ass.deep 40 21 (Kd.int .i32) A467 C468 l466 :: os) (rs)) :
    Calls Try.prog 40 [.pointer (some ⟨g465, 0, none⟩), .int .i64 a470, .int .i32 a471].toArray w (fun en w' => ∃ v, en = .returned v ∧ v = .tuple #[.int .i32 x552, .bool (x553)] ∧ St B w' (Ass.box 67 g465 [.slice A467 l466.length C468] :: Ass.deep 40 21 (Kd.int .i32) A467 C468 l466 :: os) (rs)) := by
  unfold input_Inputs_Get.f at H
  refine calls_of_EW (args := [.pointer (some ⟨g465, 0, none⟩), .int .i64 a470, .int .i32 a471]) (c := C40) 28 Try.func40 (by kernel_rfl) (by kernel_rfl) (by kernel_rfl) ?_
  refine EW.seq (x := C40.l) (y := C40.r) (by kernel_rfl) ?_
  refine EW.region (id := 0) (ops := C40.l.ops) (by kernel_rfl) ?_
  refine EL.quick 2 [0, 1, 2] [(0, .pointer (some ⟨g465, 0, none⟩)), (1, .int .i64 a470), (2, .int .i32 a471)] (by kernel_rfl) ?_
  refine EL.done (by kernel_rfl) ?_
  refine EQ.code ?_
  refine EW.seq (x := C40.r.l) (y := C40.r.r) (by kernel_rfl) ?_
  obtain ⟨j575, hj575, H⟩ := lt_out H
  refine EW.cut (x := C40.r.l.l) (y := C40.r.l.r) (fun a w => ∃ x574 : Bool, Sat 28 [(0, .pointer (some ⟨g465, 0, none⟩)), (1, .int .i64 a470), (2, .int .i32 a471), (17, .bool (x574))] a ∧ St B w (Ass.box 67 g465 [.slice A467 l466.length C468] :: Ass.deep 40 21 (Kd.int .i32) A467 C468 l466 :: os) (rs) ∧ j575 x574 = some (x552, x553)) (by kernel_rfl) ?_ (fun a w hI => ?_)
  · refine EW.region (id := 1) (ops := C40.r.l.l.ops) (by kernel_rfl) ?_
    refine EL.quick 3 [0, 1, 2, 10] [(0, .pointer (some ⟨g465, 0, none⟩)), (1, .int .i64 a470), (2, .int .i32 a471), (10, .bool (decide (a471 < 0)))] (by kernel_rfl) ?_
    by_cases h576 : a471 < 0
    · rw [if_pos h576] at H
      refine EL.keep [0, 1, 2, 10] [(0, .pointer (some ⟨g465, 0, none⟩)), (1, .int .i64 a470), (2, .int .i32 a471), (10, .bool (decide (a471 < 0)))] (by kernel_rfl) ?_
      refine EL.as' [(0, .pointer (some ⟨g465, 0, none⟩)), (1, .int .i64 a470), (2, .int .i32 a471), (10, .bool (true))] (by simp only [dec_t h576, Bool.not_true, Bool.not_false]) ?_
      refine EL.quick 7 [0, 1, 2, 17] [(0, .pointer (some ⟨g465, 0, none⟩)), (1, .int .i64 a470), (2, .int .i32 a471), (17, .bool (true))] (by kernel_rfl) ?_
      refine EL.done (by kernel_rfl) ?_
      refine EQ.to ?_
      refine EQ.keep [0, 1, 2, 17] [(0, .pointer (some ⟨g465, 0, none⟩)), (1, .int .i64 a470), (2, .int .i32 a471), (17, .bool (true))] (by kernel_rfl) ?_
      exact fun a ha => ⟨true, ha, (hS.re [1, 1] [] rfl (sub_self)), H⟩
    · rw [if_neg h576] at H
      refine EL.keep [0, 1, 2, 10] [(0, .pointer (some ⟨g465, 0, none⟩)), (1, .int .i64 a470), (2, .int .i32 a471), (10, .bool (decide (a471 < 0)))] (by kernel_rfl) ?_
      refine EL.as' [(0, .pointer (some ⟨g465, 0, none⟩)), (1, .int .i64 a470), (2, .int .i32 a471), (10, .bool (false))] (by simp only [dec_f h576, Bool.not_true, Bool.not_false]) ?_
      refine EL.quick 4 [0, 1, 2, 10, 12, 13, 14] [(0, .pointer (some ⟨g465, 0, none⟩)), (1, .int .i64 a470), (2, .int .i32 a471), (10, .bool (false)), (12, .int .i64 (IntKind.i64.wrap a471)), (13, .pointer (some ⟨g465, 0, none⟩)), (14, .int .i64 a470)] (by kernel_rfl) ?_
      obtain ⟨t577, hc578, H⟩ := b1_out H
      refine EL.of (EO.callD 42 [.pointer (some ⟨g465, 0, none⟩), .int .i64 a470] _ 15 (by kernel_rfl) (by kernel_rfl) (by kernel_rfl) (input_Inputs_Len.calls hc578 hS) ?_)
      rintro v w ⟨rfl, hS⟩
      refine EL.quick 2 [0, 1, 2, 17] [(0, .pointer (some ⟨g465, 0, none⟩)), (1, .int .i64 a470), (2, .int .i32 a471), (17, .bool (decide ((IntKind.i64.wrap a471) ≥ t577)))] (by kernel_rfl) ?_
      refine EL.done (by kernel_rfl) ?_
      refine EQ.to ?_
      refine EQ.keep [0, 1, 2, 17] [(0, .pointer (some ⟨g465, 0, none⟩)), (1, .int .i64 a470), (2, .int .i32 a471), (17, .bool (decide ((IntKind.i64.wrap a471) ≥ t577)))] (by kernel_rfl) ?_
      exact fun a ha => ⟨decide ((IntKind.i64.wrap a471) ≥ t577), ha, (hS.re [1, 1] [] rfl (sub_self)), H⟩
  · obtain ⟨x574, ha, hS, H⟩ := hI
    rw [hj575] at H
    (try dsimp only at H)
    refine EW.at ?_ a ha
    clear ha a
    refine EW.condP' (o := (.tmp 17)) (x := C40.r.l.r.l) (y := C40.r.l.r.r) (x574) (by kernel_rfl) (by kernel_rfl) (fun h579 => ?_) (fun h579 => ?_)
    · rw [if_pos h579] at H
      refine EW.seq (x := C40.r.l.r.l.l) (y := C40.r.l.r.l.r) (by kernel_rfl) ?_
      refine EW.region (id := 2) (ops := C40.r.l.r.l.l.ops) (by kernel_rfl) ?_
      refine EL.quick 2 [6, 7] [(6, .int .i32 0), (7, .bool (false))] (by kernel_rfl) ?_
      refine EL.done (by kernel_rfl) ?_
      refine EQ.code ?_
      refine EW.ret (by kernel_rfl) ?_
      refine EQ.ret ?_
      simp only [Option.some.injEq, Prod.mk.injEq] at H
      obtain ⟨rfl, rfl⟩ := H
      exact EQ.leave (.tuple #[.int .i32 0, .bool (false)]) (by kernel_rfl) ⟨_, rfl, rfl, (hS.re [1, 1] [] rfl (sub_self))⟩
    · rw [if_neg h579] at H
      refine EW.skip (by kernel_rfl) ?_
      refine EQ.code ?_
      refine EW.seq (x := C40.r.r.l) (y := C40.r.r.r) (by kernel_rfl) ?_
      refine EW.region (id := 3) (ops := C40.r.r.l.ops) (by kernel_rfl) ?_
      refine EL.quick 3 [1, 2, 20] [(1, .int .i64 a470), (2, .int .i32 a471), (20, .pointer (some ⟨g465, 0, none⟩))] (by kernel_rfl) ?_
      refine EL.of (EO.Y (YO.loadBox hS 0 rfl 51 0 1 (.slice A467 l466.length C468) 21 (by kernel_rfl) (by kernel_rfl) (by kernel_rfl) (by kernel_rfl)) ?_)
      refine EL.quick 1 [2, 21, 22] [(2, .int .i32 a471), (21, .slice A467 l466.length C468), (22, .int .i64 a470)] (by kernel_rfl) ?_
      obtain ⟨h580, H⟩ := ite_in H
      obtain ⟨h581, H⟩ := ite_in H
      obtain ⟨ad582, rfl⟩ := St.deep_some hS 1 rfl h580 h581
      refine EL.of (EO.Y (YO.idx 51 1 ad582 l466.length C468 .i64 a470 23 (by kernel_rfl) (by kernel_rfl) (by kernel_rfl) (by kernel_rfl) h580 h581) ?_)
      refine EL.of (EO.openEl hS 1 ad582 rfl a470 h580 h581 (fun A583 C584 => Ass.box 67 g465 [.slice (some ad582) l466.length C468] :: Ass.holed 40 21 (Kd.int .i32) (some ad582) C468 l466 a470.toNat (A583, (l466.getD a470.toNat []).length, C584) :: os) 40 24 (by kernel_rfl) (by kernel_rfl) (by kernel_rfl) (by kernel_rfl) (fun _ _ => rfl) ?_)
      intro A583 C584 hS
      refine EL.quick 1 [24, 25] [(24, .slice A583 (l466.getD a470.toNat []).length C584), (25, .int .i32 a471)] (by kernel_rfl) ?_
      obtain ⟨h585, H⟩ := ite_in H
      obtain ⟨h586, H⟩ := ite_in H
      obtain ⟨ad587, rfl⟩ := St.rd_some hS (Rd.own 0 21 rfl) h585 h586
      refine EL.of (EO.Y (YO.idx 40 1 ad587 (l466.getD a470.toNat []).length C584 .i32 a471 26 (by kernel_rfl) (by kernel_rfl) (by kernel_rfl) (by kernel_rfl) h585 h586) ?_)
      refine EL.of (EO.Y (YO.loadEl hS (Kd.int .i32) ad587 C584 (l466.getD a470.toNat []) (Rd.own 0 21 rfl) 0 (encI .i32) encI_of a471 h585 h586 21 1 0 1 rfl (.int .i32 ((l466.getD a470.toNat []).getD a471.toNat 0)) 27 (by kernel_rfl) (by kernel_rfl) (by kernel_rfl) (by kernel_rfl)) ?_)
      refine EL.quick 2 [6, 7] [(6, .int .i32 ((l466.getD a470.toNat []).getD a471.toNat 0)), (7, .bool (true))] (by kernel_rfl) ?_
      refine EL.done (by kernel_rfl) ?_
      refine EQ.code ?_
      refine EW.ret (by kernel_rfl) ?_
      have hS := St.close hS 0 1 rfl rfl rfl l466 (set_getD _ _)
      simp only [Option.some.injEq, Prod.mk.injEq] at H
      obtain ⟨rfl, rfl⟩ := H
      exact EQ.leave (.tuple #[.int .i32 ((l466.getD a470.toNat []).getD a471.toNat 0), .bool (true)]) (by kernel_rfl) ⟨_, rfl, rfl, (hS.re [1, 1] [] rfl (sub_self))⟩

/-! ### confidant/confidantlaw14.known: function 38 -/
def confidantlaw14_known.f (K : Nat)  : Option Bool := lt ([5, 6] : List Int) fun l619 => (b1 (input_New.f K ([l619, ([] : List Int)] : List (List Int))) fun (t622 : List (List Int)) => (b2 (input_Inputs_Get.f K t622 0 1) fun (t630 : Int) (t631 : Bool) => (b2 (input_Inputs_Get.f K t622 1 0) fun (t636 : Int) (t637 : Bool) => (if t631 = true then (if t630 = 6 then (if t637 = true then (some false) else (b1 (input_Inputs_Len.f K t622 0) fun (t642 : Int) => (if t642 = 2 then (b1 (input_Inputs_Len.f K t622 2) fun (t645 : Int) => (some (decide (t645 = 0)))) else (some false)))) else (some false)) else (some false)))))
set_option maxRecDepth 100000 in
theorem confidantlaw14_known.calls {K : Nat} {x608 : Bool} {B w : World} {os : List Ass} {rs : List Ro} (H : confidantlaw14_known.f K = some x608) (hS : St B w (os) (rs)) :
    Calls Try.prog 38 [].toArray w (fun en w' => ∃ v, en = .returned v ∧ v = .bool (x608) ∧ St B w' (os) (rs)) := by
  unfold confidantlaw14_known.f at H
  refine calls_of_EW (args := []) (c := C38) 40 Try.func38 (by kernel_rfl) (by kernel_rfl) (by kernel_rfl) ?_
  refine EW.seq (x := C38.l) (y := C38.r) (by kernel_rfl) ?_
  refine EW.region (id := 0) (ops := C38.l.ops) (by kernel_rfl) ?_
  refine EL.quick 1 [] [] (by kernel_rfl) ?_
  refine EL.done (by kernel_rfl) ?_
  refine EQ.code ?_
  refine EW.seq (x := C38.r.l) (y := C38.r.r) (by kernel_rfl) ?_
  refine EW.region (id := 1) (ops := C38.r.l.ops) (by kernel_rfl) ?_
  obtain ⟨l619, hl619, H⟩ := lt_out H
  refine EL.of (EO.lit hS (Kd.int .i32) 21 40 2 #[(0, .int .i32 5), (1, .int .i32 6)] [.int .i32 5, .int .i32 6] l619 6 (by kernel_rfl) (by kernel_rfl) (by kernel_rfl) (fun _ => (by kernel_rfl)) (by rw [hl619]; rfl) (by kernel_rfl) (fun w G hr => (by rw [hl619]; exact ⟨[.int .i32 5], [.int .i32 6], rfl, rfl, ⟨[.int .i32 6], [], rfl, rfl, rfl⟩⟩)) ?_)
  intro g618 w hS
  refine EL.of (EO.lit (xs := ([((some ⟨g618, 0, none⟩), l619.length, 2), (none, ([] : List Int).length, 0)] : List Hdr)) hS Kd.hdr 40 51 2 #[(0, .slice (some ⟨g618, 0, none⟩) l619.length 2), (1, .slice none ([] : List Int).length 0)] [.slice (some ⟨g618, 0, none⟩) l619.length 2, .slice none ([] : List Int).length 0] 7 (by kernel_rfl) (by kernel_rfl) (by kernel_rfl) (fun _ => (by kernel_rfl)) rfl (by kernel_rfl) (fun w G hr => ⟨[.slice (some ⟨g618, 0, none⟩) l619.length 2], [.slice none ([] : List Int).length 0], rfl, rfl, ⟨[.slice none ([] : List Int).length 0], [], rfl, rfl, rfl⟩⟩) ?_)
  intro g620 w hS
  have hS := St.nilO hS 21 (Kd.int .i32)
  have hS : St B _ (Ass.deep 40 21 (Kd.int .i32) (some ⟨g620, 0, none⟩) 2 ([l619, ([] : List Int)] : List (List Int)) :: os) (rs) := St.fold (B := B) (os := _) (rs := _) (et := 40) (et' := 21) (K := (Kd.int .i32)) (hs := [((some ⟨g618, 0, none⟩), l619.length, 2), (none, ([] : List Int).length, 0)]) (xs := ([l619, ([] : List Int)] : List (List Int))) ⟨rfl, rfl, trivial⟩ (St.re hS [0, 2, 2] [] rfl sub_self)
  have hS := St.frDeep hS 0 rfl
  have hS : St B _ (os) (Ro.sl (Kd.slice (Kd.int .i32)) (some ⟨g620, 0, none⟩) 2 ([l619, ([] : List Int)] : List (List Int)) :: Ro.sl (Kd.slice (Kd.int .i32)) (some ⟨g620, 0, none⟩) 2 ([l619, ([] : List Int)] : List (List Int)) :: rs) := hS.re [] [] rfl (sub_cons 0 rfl sub_self)
  obtain ⟨t622, hc626, H⟩ := b1_out H
  refine EL.of (EO.callD 39 [.slice (some ⟨g620, 0, none⟩) ([l619, ([] : List Int)] : List (List Int)).length 2] _ 8 (by kernel_rfl) (by kernel_rfl) (by kernel_rfl) (input_New.calls hc626 hS) ?_)
  rintro v w ⟨g623, A624, C625, rfl, hS⟩
  refine EL.quick 1 [1] [(1, .pointer (some ⟨g623, 0, none⟩))] (by kernel_rfl) ?_
  refine EL.done (by kernel_rfl) ?_
  refine EQ.code ?_
  refine EW.seq (x := C38.r.r.l) (y := C38.r.r.r) (by kernel_rfl) ?_
  refine EW.seq (x := C38.r.r.l.l) (y := C38.r.r.l.r) (by kernel_rfl) ?_
  refine EW.region (id := 2) (ops := C38.r.r.l.l.ops) (by kernel_rfl) ?_
  refine EL.quick 2 [1, 10] [(1, .pointer (some ⟨g623, 0, none⟩)), (10, .bool (false))] (by kernel_rfl) ?_
  refine EL.done (by kernel_rfl) ?_
  refine EQ.code ?_
  refine EW.condF (o := (.tmp 10)) (x := C38.r.r.l.r.l) (y := C38.r.r.l.r.r) (by kernel_rfl) (by kernel_rfl) ?_
  refine EW.skip (by kernel_rfl) ?_
  refine EQ.code ?_
  refine EW.seq (x := C38.r.r.r.l) (y := C38.r.r.r.r) (by kernel_rfl) ?_
  refine EW.region (id := 4) (ops := C38.r.r.r.l.ops) (by kernel_rfl) ?_
  refine EL.quick 1 [1, 12] [(1, .pointer (some ⟨g623, 0, none⟩)), (12, .pointer (some ⟨g623, 0, none⟩))] (by kernel_rfl) ?_
  obtain ⟨t630, t631, hc632, H⟩ := b2_out H
  refine EL.of (EO.callD 40 [.pointer (some ⟨g623, 0, none⟩), .int .i64 0, .int .i32 1] _ 13 (by kernel_rfl) (by kernel_rfl) (by kernel_rfl) (input_Inputs_Get.calls hc632 hS) ?_)
  rintro v w ⟨rfl, hS⟩
  refine EL.quick 5 [1, 2, 3] [(1, .pointer (some ⟨g623, 0, none⟩)), (2, .int .i32 t630), (3, .bool (t631))] (by kernel_rfl) ?_
  refine EL.done (by kernel_rfl) ?_
  refine EQ.code ?_
  refine EW.seq (x := C38.r.r.r.r.l) (y := C38.r.r.r.r.r) (by kernel_rfl) ?_
  refine EW.region (id := 5) (ops := C38.r.r.r.r.l.ops) (by kernel_rfl) ?_
  refine EL.quick 1 [1, 2, 3, 17] [(1, .pointer (some ⟨g623, 0, none⟩)), (2, .int .i32 t630), (3, .bool (t631)), (17, .pointer (some ⟨g623, 0, none⟩))] (by kernel_rfl) ?_
  obtain ⟨t636, t637, hc638, H⟩ := b2_out H
  refine EL.of (EO.callD 40 [.pointer (some ⟨g623, 0, none⟩), .int .i64 1, .int .i32 0] _ 18 (by kernel_rfl) (by kernel_rfl) (by kernel_rfl) (input_Inputs_Get.calls hc638 hS) ?_)
  rintro v w ⟨rfl, hS⟩
  refine EL.quick 5 [1, 2, 3, 5] [(1, .pointer (some ⟨g623, 0, none⟩)), (2, .int .i32 t630), (3, .bool (t631)), (5, .bool (t637))] (by kernel_rfl) ?_
  refine EL.done (by kernel_rfl) ?_
  refine EQ.code ?_
  refine EW.seq (x := C38.r.r.r.r.r.l) (y := C38.r.r.r.r.r.r) (by kernel_rfl) ?_
  refine EW.region (id := 6) (ops := C38.r.r.r.r.r.l.ops) (by kernel_rfl) ?_
  refine EL.quick 2 [1, 2, 5, 22] [(1, .pointer (some ⟨g623, 0, none⟩)), (2, .int .i32 t630), (5, .bool (t637)), (22, .bool (t631))] (by kernel_rfl) ?_
  by_cases h639 : t631 = true
  · rw [if_pos h639] at H
    refine EL.keep [1, 2, 5, 22] [(1, .pointer (some ⟨g623, 0, none⟩)), (2, .int .i32 t630), (5, .bool (t637)), (22, .bool (t631))] (by kernel_rfl) ?_
    refine EL.as' [(1, .pointer (some ⟨g623, 0, none⟩)), (2, .int .i32 t630), (5, .bool (t637)), (22, .bool (true))] (by simp only [h639, Bool.not_true, Bool.not_false]) ?_
    refine EL.quick 4 [1, 5, 26] [(1, .pointer (some ⟨g623, 0, none⟩)), (5, .bool (t637)), (26, .bool (decide (t630 = 6)))] (by kernel_rfl) ?_
    by_cases h640 : t630 = 6
    · rw [if_pos h640] at H
      refine EL.keep [1, 5, 26] [(1, .pointer (some ⟨g623, 0, none⟩)), (5, .bool (t637)), (26, .bool (decide (t630 = 6)))] (by kernel_rfl) ?_
      refine EL.as' [(1, .pointer (some ⟨g623, 0, none⟩)), (5, .bool (t637)), (26, .bool (true))] (by simp only [dec_t h640, Bool.not_true, Bool.not_false]) ?_
      refine EL.quick 4 [1, 30] [(1, .pointer (some ⟨g623, 0, none⟩)), (30, .bool (!(t637)))] (by kernel_rfl) ?_
      by_cases h641 : t637 = true
      · rw [if_pos h641] at H
        refine EL.keep [1, 30] [(1, .pointer (some ⟨g623, 0, none⟩)), (30, .bool (!(t637)))] (by kernel_rfl) ?_
        refine EL.as' [(1, .pointer (some ⟨g623, 0, none⟩)), (30, .bool (false))] (by simp only [h641, Bool.not_true, Bool.not_false]) ?_
        refine EL.quick 10 [0] [(0, .bool (false))] (by kernel_rfl) ?_
        refine EL.done (by kernel_rfl) ?_
        refine EQ.code ?_
        refine EW.ret (by kernel_rfl) ?_
        obtain rfl := Option.some.inj H
        exact EQ.leave (.bool (false)) (by kernel_rfl) ⟨_, rfl, rfl, (hS.re [] [0, 0] rfl (sub_tail (sub_tail (sub_self))))⟩
      · rw [if_neg h641] at H
        refine EL.keep [1, 30] [(1, .pointer (some ⟨g623, 0, none⟩)), (30, .bool (!(t637)))] (by kernel_rfl) ?_
        refine EL.as' [(1, .pointer (some ⟨g623, 0, none⟩)), (30, .bool (true))] (by simp only [(Bool.eq_false_iff.2 h641), Bool.not_true, Bool.not_false]) ?_
        refine EL.quick 1 [1, 30, 31] [(1, .pointer (some ⟨g623, 0, none⟩)), (30, .bool (true)), (31, .pointer (some ⟨g623, 0, none⟩))] (by kernel_rfl) ?_
        obtain ⟨t642, hc643, H⟩ := b1_out H
        refine EL.of (EO.callD 42 [.pointer (some ⟨g623, 0, none⟩), .int .i64 0] _ 32 (by kernel_rfl) (by kernel_rfl) (by kernel_rfl) (input_Inputs_Len.calls hc643 hS) ?_)
        rintro v w ⟨rfl, hS⟩
        refine EL.quick 3 [1, 35] [(1, .pointer (some ⟨g623, 0, none⟩)), (35, .bool (decide (t642 = 2)))] (by kernel_rfl) ?_
        by_cases h644 : t642 = 2
        · rw [if_pos h644] at H
          refine EL.keep [1, 35] [(1, .pointer (some ⟨g623, 0, none⟩)), (35, .bool (decide (t642 = 2)))] (by kernel_rfl) ?_
          refine EL.as' [(1, .pointer (some ⟨g623, 0, none⟩)), (35, .bool (true))] (by simp only [dec_t h644, Bool.not_true, Bool.not_false]) ?_
          refine EL.quick 1 [35, 36] [(35, .bool (true)), (36, .pointer (some ⟨g623, 0, none⟩))] (by kernel_rfl) ?_
          obtain ⟨t645, hc646, H⟩ := b1_out H
          refine EL.of (EO.callD 42 [.pointer (some ⟨g623, 0, none⟩), .int .i64 2] _ 37 (by kernel_rfl) (by kernel_rfl) (by kernel_rfl) (input_Inputs_Len.calls hc646 hS) ?_)
          rintro v w ⟨rfl, hS⟩
          refine EL.quick 3 [0] [(0, .bool (decide (t645 = 0)))] (by kernel_rfl) ?_
          refine EL.done (by kernel_rfl) ?_
          refine EQ.code ?_
          refine EW.ret (by kernel_rfl) ?_
          obtain rfl := Option.some.inj H
          exact EQ.leave (.bool (decide (t645 = 0))) (by kernel_rfl) ⟨_, rfl, rfl, (hS.re [] [0, 0] rfl (sub_tail (sub_tail (sub_self))))⟩
        · rw [if_neg h644] at H
          refine EL.keep [1, 35] [(1, .pointer (some ⟨g623, 0, none⟩)), (35, .bool (decide (t642 = 2)))] (by kernel_rfl) ?_
          refine EL.as' [(1, .pointer (some ⟨g623, 0, none⟩)), (35, .bool (false))] (by simp only [dec_f h644, Bool.not_true, Bool.not_false]) ?_
          refine EL.quick 5 [0] [(0, .bool (false))] (by kernel_rfl) ?_
          refine EL.done (by kernel_rfl) ?_
          refine EQ.code ?_
          refine EW.ret (by kernel_rfl) ?_
          obtain rfl := Option.some.inj H
          exact EQ.leave (.bool (false)) (by kernel_rfl) ⟨_, rfl, rfl, (hS.re [] [0, 0] rfl (sub_tail (sub_tail (sub_self))))⟩
    · rw [if_neg h640] at H
      refine EL.keep [1, 5, 26] [(1, .pointer (some ⟨g623, 0, none⟩)), (5, .bool (t637)), (26, .bool (decide (t630 = 6)))] (by kernel_rfl) ?_
      refine EL.as' [(1, .pointer (some ⟨g623, 0, none⟩)), (5, .bool (t637)), (26, .bool (false))] (by simp only [dec_f h640, Bool.not_true, Bool.not_false]) ?_
      refine EL.quick 14 [0] [(0, .bool (false))] (by kernel_rfl) ?_
      refine EL.done (by kernel_rfl) ?_
      refine EQ.code ?_
      refine EW.ret (by kernel_rfl) ?_
      obtain rfl := Option.some.inj H
      exact EQ.leave (.bool (false)) (by kernel_rfl) ⟨_, rfl, rfl, (hS.re [] [0, 0] rfl (sub_tail (sub_tail (sub_self))))⟩
  · rw [if_neg h639] at H
    refine EL.keep [1, 2, 5, 22] [(1, .pointer (some ⟨g623, 0, none⟩)), (2, .int .i32 t630), (5, .bool (t637)), (22, .bool (t631))] (by kernel_rfl) ?_
    refine EL.as' [(1, .pointer (some ⟨g623, 0, none⟩)), (2, .int .i32 t630), (5, .bool (t637)), (22, .bool (false))] (by simp only [(Bool.eq_false_iff.2 h639), Bool.not_true, Bool.not_false]) ?_
    refine EL.quick 18 [0] [(0, .bool (false))] (by kernel_rfl) ?_
    refine EL.done (by kernel_rfl) ?_
    refine EQ.code ?_
    refine EW.ret (by kernel_rfl) ?_
    obtain rfl := Option.some.inj H
    exact EQ.leave (.bool (false)) (by kernel_rfl) ⟨_, rfl, rfl, (hS.re [] [0, 0] rfl (sub_tail (sub_tail (sub_self))))⟩

/-! ### confidant/confidantref12.Input: function 41 -/
def confidantref12_Input.f (K : Nat) (l871 : List (List Int)) (a874 : Int) (a875 : Int) : Option (Int × Bool) := lt (fun (x987 : Bool) => (if x987 = true then (some (0, false)) else (if 0 ≤ a874 then (if a874 < (l871.length : Int) then (if 0 ≤ a875 then (if a875 < ((l871.getD a874.toNat []).length : Int) then (some (((l871.getD a874.toNat []).getD a875.toNat 0), true)) else none) else none) else none) else none))) fun j988 => (if a874 < 0 then (j988 true) else (if a874 ≥ (l871.length : Int) then (j988 true) else (if a875 < 0 then (j988 true) else (if 0 ≤ a874 then (if a874 < (l871.length : Int) then (j988 (decide ((IntKind.i64.wrap a875) ≥ ((l871.getD a874.toNat []).length : Int)))) else none) else none))))
set_option maxRecDepth 100000 in
theorem confidantref12_Input.calls {K : Nat} {l871 : List (List Int)} {a874 : Int} {a875 : Int} {A872 : Option Addr} {C873 : Nat} {x940 : Int} {x941 : Bool} {B w : World} {os : List Ass} {rs : List Ro} (H : confidantref12_Input.f K l871 a874 a875 = some (x940, x941)) (hS : St B w (os) (Ro.sl (Kd.slice (Kd.int .i32)) A872 C873 l871 :: rs)) :
    Calls Try.prog 41 [.slice A872 l871.length C873, .int .i64 a874, .int .i32 a875].toArray w (fun en w' => ∃ v, en = .returned v ∧ v = .tuple #[.int .i32 x940, .bool (x941)] ∧ St B w' (os) (Ro.sl (Kd.slice (Kd.int .i32)) A872 C873 l871 :: rs)) := by
  unfold confidantref12_Input.f at H
  refine calls_of_EW (args := [.slice A872 l871.length C873, .int .i64 a874, .int .i32 a875]) (c := C41) 37 Try.func41 (by kernel_rfl) (by kernel_rfl) (by kernel_rfl) ?_
  refine EW.seq (x := C41.l) (y := C41.r) (by kernel_rfl) ?_
  refine EW.region (id := 0) (ops := C41.l.ops) (by kernel_rfl) ?_
  refine EL.quick 2 [0, 1, 2] [(0, .slice A872 l871.length C873), (1, .int .i64 a874), (2, .int .i32 a875)] (by kernel_rfl) ?_
  refine EL.done (by kernel_rfl) ?_
  refine EQ.code ?_
  refine EW.seq (x := C41.r.l) (y := C41.r.r) (by kernel_rfl) ?_
  obtain ⟨j988, hj988, H⟩ := lt_out H
  refine EW.cut (x := C41.r.l.l) (y := C41.r.l.r) (fun a w => ∃ x987 : Bool, Sat 37 [(0, .slice A872 l871.length C873), (1, .int .i64 a874), (2, .int .i32 a875), (29, .bool (x987))] a ∧ St B w (os) (Ro.sl (Kd.slice (Kd.int .i32)) A872 C873 l871 :: rs) ∧ j988 x987 = some (x940, x941)) (by kernel_rfl) ?_ (fun a w hI => ?_)
  · refine EW.region (id := 1) (ops := C41.r.l.l.ops) (by kernel_rfl) ?_
    refine EL.quick 3 [0, 1, 2, 10] [(0, .slice A872 l871.length C873), (1, .int .i64 a874), (2, .int .i32 a875), (10, .bool (decide (a874 < 0)))] (by kernel_rfl) ?_
    by_cases h989 : a874 < 0
    · rw [if_pos h989] at H
      refine EL.keep [0, 1, 2, 10] [(0, .slice A872 l871.length C873), (1, .int .i64 a874), (2, .int .i32 a875), (10, .bool (decide (a874 < 0)))] (by kernel_rfl) ?_
      refine EL.as' [(0, .slice A872 l871.length C873), (1, .int .i64 a874), (2, .int .i32 a875), (10, .bool (true))] (by simp only [dec_t h989, Bool.not_true, Bool.not_false]) ?_
      refine EL.quick 19 [0, 1, 2, 29] [(0, .slice A872 l871.length C873), (1, .int .i64 a874), (2, .int .i32 a875), (29, .bool (true))] (by kernel_rfl) ?_
      refine EL.done (by kernel_rfl) ?_
      refine EQ.to ?_
      refine EQ.keep [0, 1, 2, 29] [(0, .slice A872 l871.length C873), (1, .int .i64 a874), (2, .int .i32 a875), (29, .bool (true))] (by kernel_rfl) ?_
      exact fun a ha => ⟨true, ha, (hS.re [] [] rfl (sub_cons 0 rfl (sub_tail (sub_self)))), H⟩
    · rw [if_neg h989] at H
      refine EL.keep [0, 1, 2, 10] [(0, .slice A872 l871.length C873), (1, .int .i64 a874), (2, .int .i32 a875), (10, .bool (decide (a874 < 0)))] (by kernel_rfl) ?_
      refine EL.as' [(0, .slice A872 l871.length C873), (1, .int .i64 a874), (2, .int .i32 a875), (10, .bool (false))] (by simp only [dec_f h989, Bool.not_true, Bool.not_false]) ?_
      refine EL.quick 6 [0, 1, 2, 16] [(0, .slice A872 l871.length C873), (1, .int .i64 a874), (2, .int .i32 a875), (16, .bool (decide (a874 ≥ (l871.length : Int))))] (by kernel_rfl) ?_
      by_cases h990 : a874 ≥ (l871.length : Int)
      · rw [if_pos h990] at H
        refine EL.keep [0, 1, 2, 16] [(0, .slice A872 l871.length C873), (1, .int .i64 a874), (2, .int .i32 a875), (16, .bool (decide (a874 ≥ (l871.length : Int))))] (by kernel_rfl) ?_
        refine EL.as' [(0, .slice A872 l871.length C873), (1, .int .i64 a874), (2, .int .i32 a875), (16, .bool (true))] (by simp only [dec_t h990, Bool.not_true, Bool.not_false]) ?_
        refine EL.quick 13 [0, 1, 2, 29] [(0, .slice A872 l871.length C873), (1, .int .i64 a874), (2, .int .i32 a875), (29, .bool (true))] (by kernel_rfl) ?_
        refine EL.done (by kernel_rfl) ?_
        refine EQ.to ?_
        refine EQ.keep [0, 1, 2, 29] [(0, .slice A872 l871.length C873), (1, .int .i64 a874), (2, .int .i32 a875), (29, .bool (true))] (by kernel_rfl) ?_
        exact fun a ha => ⟨true, ha, (hS.re [] [] rfl (sub_cons 0 rfl (sub_tail (sub_self)))), H⟩
      · rw [if_neg h990] at H
        refine EL.keep [0, 1, 2, 16] [(0, .slice A872 l871.length C873), (1, .int .i64 a874), (2, .int .i32 a875), (16, .bool (decide (a874 ≥ (l871.length : Int))))] (by kernel_rfl) ?_
        refine EL.as' [(0, .slice A872 l871.length C873), (1, .int .i64 a874), (2, .int .i32 a875), (16, .bool (false))] (by simp only [dec_f h990, Bool.not_true, Bool.not_false]) ?_
        refine EL.quick 4 [0, 1, 2, 20] [(0, .slice A872 l871.length C873), (1, .int .i64 a874), (2, .int .i32 a875), (20, .bool (decide (a875 < 0)))] (by kernel_rfl) ?_
        by_cases h991 : a875 < 0
        · rw [if_pos h991] at H
          refine EL.keep [0, 1, 2, 20] [(0, .slice A872 l871.length C873), (1, .int .i64 a874), (2, .int .i32 a875), (20, .bool (decide (a875 < 0)))] (by kernel_rfl) ?_
          refine EL.as' [(0, .slice A872 l871.length C873), (1, .int .i64 a874), (2, .int .i32 a875), (20, .bool (true))] (by simp only [dec_t h991, Bool.not_true, Bool.not_false]) ?_
          refine EL.quick 9 [0, 1, 2, 29] [(0, .slice A872 l871.length C873), (1, .int .i64 a874), (2, .int .i32 a875), (29, .bool (true))] (by kernel_rfl) ?_
          refine EL.done (by kernel_rfl) ?_
          refine EQ.to ?_
          refine EQ.keep [0, 1, 2, 29] [(0, .slice A872 l871.length C873), (1, .int .i64 a874), (2, .int .i32 a875), (29, .bool (true))] (by kernel_rfl) ?_
          exact fun a ha => ⟨true, ha, (hS.re [] [] rfl (sub_cons 0 rfl (sub_tail (sub_self)))), H⟩
        · rw [if_neg h991] at H
          refine EL.keep [0, 1, 2, 20] [(0, .slice A872 l871.length C873), (1, .int .i64 a874), (2, .int .i32 a875), (20, .bool (decide (a875 < 0)))] (by kernel_rfl) ?_
          refine EL.as' [(0, .slice A872 l871.length C873), (1, .int .i64 a874), (2, .int .i32 a875), (20, .bool (false))] (by simp only [dec_f h991, Bool.not_true, Bool.not_false]) ?_
          refine EL.quick 4 [0, 1, 2, 20, 22, 23, 24] [(0, .slice A872 l871.length C873), (1, .int .i64 a874), (2, .int .i32 a875), (20, .bool (false)), (22, .int .i64 (IntKind.i64.wrap a875)), (23, .slice A872 l871.length C873), (24, .int .i64 a874)] (by kernel_rfl) ?_
          obtain ⟨h992, H⟩ := ite_in H
          obtain ⟨h993, H⟩ := ite_in H
          obtain ⟨ad994, rfl⟩ := St.rd_some hS (Rd.ro 0 rfl) h992 h993
          refine EL.of (EO.Y (YO.idx 51 1 ad994 l871.length C873 .i64 a874 25 (by kernel_rfl) (by kernel_rfl) (by kernel_rfl) (by kernel_rfl) h992 h993) ?_)
          refine EL.of (EO.loadSl hS (Kd.int .i32) ad994 C873 l871 (Rd.ro 0 rfl) a874 h992 h993 40 26 (by kernel_rfl) (by kernel_rfl) (by kernel_rfl) (by kernel_rfl) ?_)
          intro A995 C996 hS
          refine EL.quick 3 [0, 1, 2, 29] [(0, .slice (some ad994) l871.length C873), (1, .int .i64 a874), (2, .int .i32 a875), (29, .bool (decide ((IntKind.i64.wrap a875) ≥ ((l871.getD a874.toNat []).length : Int))))] (by kernel_rfl) ?_
          refine EL.done (by kernel_rfl) ?_
          refine EQ.to ?_
          refine EQ.keep [0, 1, 2, 29] [(0, .slice (some ad994) l871.length C873), (1, .int .i64 a874), (2, .int .i32 a875), (29, .bool (decide ((IntKind.i64.wrap a875) ≥ ((l871.getD a874.toNat []).length : Int))))] (by kernel_rfl) ?_
          exact fun a ha => ⟨decide ((IntKind.i64.wrap a875) ≥ ((l871.getD a874.toNat []).length : Int)), ha, (hS.re [] [] rfl (sub_cons 1 rfl (sub_tail (sub_tail (sub_self))))), H⟩
  · obtain ⟨x987, ha, hS, H⟩ := hI
    rw [hj988] at H
    (try dsimp only at H)
    refine EW.at ?_ a ha
    clear ha a
    refine EW.condP' (o := (.tmp 29)) (x := C41.r.l.r.l) (y := C41.r.l.r.r) (x987) (by kernel_rfl) (by kernel_rfl) (fun h997 => ?_) (fun h997 => ?_)
    · rw [if_pos h997] at H
      refine EW.seq (x := C41.r.l.r.l.l) (y := C41.r.l.r.l.r) (by kernel_rfl) ?_
      refine EW.region (id := 2) (ops := C41.r.l.r.l.l.ops) (by kernel_rfl) ?_
      refine EL.quick 2 [6, 7] [(6, .int .i32 0), (7, .bool (false))] (by kernel_rfl) ?_
      refine EL.done (by kernel_rfl) ?_
      refine EQ.code ?_
      refine EW.ret (by kernel_rfl) ?_
      refine EQ.ret ?_
      simp only [Option.some.injEq, Prod.mk.injEq] at H
      obtain ⟨rfl, rfl⟩ := H
      exact EQ.leave (.tuple #[.int .i32 0, .bool (false)]) (by kernel_rfl) ⟨_, rfl, rfl, (hS.re [] [] rfl (sub_self))⟩
    · rw [if_neg h997] at H
      refine EW.skip (by kernel_rfl) ?_
      refine EQ.code ?_
      refine EW.seq (x := C41.r.r.l) (y := C41.r.r.r) (by kernel_rfl) ?_
      refine EW.region (id := 3) (ops := C41.r.r.l.ops) (by kernel_rfl) ?_
      refine EL.quick 2 [2, 30, 31] [(2, .int .i32 a875), (30, .slice A872 l871.length C873), (31, .int .i64 a874)] (by kernel_rfl) ?_
      obtain ⟨h998, H⟩ := ite_in H
      obtain ⟨h999, H⟩ := ite_in H
      obtain ⟨ad1000, rfl⟩ := St.rd_some hS (Rd.ro 0 rfl) h998 h999
      refine EL.of (EO.Y (YO.idx 51 1 ad1000 l871.length C873 .i64 a874 32 (by kernel_rfl) (by kernel_rfl) (by kernel_rfl) (by kernel_rfl) h998 h999) ?_)
      refine EL.of (EO.loadSl hS (Kd.int .i32) ad1000 C873 l871 (Rd.ro 0 rfl) a874 h998 h999 40 33 (by kernel_rfl) (by kernel_rfl) (by kernel_rfl) (by kernel_rfl) ?_)
      intro A1001 C1002 hS
      refine EL.quick 1 [33, 34] [(33, .slice A1001 (l871.getD a874.toNat []).length C1002), (34, .int .i32 a875)] (by kernel_rfl) ?_
      obtain ⟨h1003, H⟩ := ite_in H
      obtain ⟨h1004, H⟩ := ite_in H
      obtain ⟨ad1005, rfl⟩ := St.rd_some hS (Rd.ro 0 rfl) h1003 h1004
      refine EL.of (EO.Y (YO.idx 40 1 ad1005 (l871.getD a874.toNat []).length C1002 .i32 a875 35 (by kernel_rfl) (by kernel_rfl) (by kernel_rfl) (by kernel_rfl) h1003 h1004) ?_)
      refine EL.of (EO.Y (YO.loadEl hS (Kd.int .i32) ad1005 C1002 (l871.getD a874.toNat []) (Rd.ro 0 rfl) 0 (encI .i32) encI_of a875 h1003 h1004 21 1 0 1 rfl (.int .i32 ((l871.getD a874.toNat []).getD a875.toNat 0)) 36 (by kernel_rfl) (by kernel_rfl) (by kernel_rfl) (by kernel_rfl)) ?_)
      refine EL.quick 2 [6, 7] [(6, .int .i32 ((l871.getD a874.toNat []).getD a875.toNat 0)), (7, .bool (true))] (by kernel_rfl) ?_
      refine EL.done (by kernel_rfl) ?_
      refine EQ.code ?_
      refine EW.ret (by kernel_rfl) ?_
      simp only [Option.some.injEq, Prod.mk.injEq] at H
      obtain ⟨rfl, rfl⟩ := H
      exact EQ.leave (.tuple #[.int .i32 ((l871.getD a874.toNat []).getD a875.toNat 0), .bool (true)]) (by kernel_rfl) ⟨_, rfl, rfl, (hS.re [] [] rfl (sub_tail (sub_self)))⟩

/-! ### confidant/confidantlaw14.InputTells: function 12 -/
def confidantlaw14_InputTells.l2 (K : Nat) (l9357 : List Int) (t5360 : List (List Int)) (l5368 : List Int) (x6754 : Int) (l7 : List (List Int)) (j9353 : (List Int) → Option Bool) : Nat → Int → Option Bool
  | 0, _ => none
  | n + 1, x9400 => if x9400 < (l9357.length : Int) then (if 0 ≤ x9400 then (b2 (input_Inputs_Get.f K t5360 (l5368.getD x6754.toNat 0) (l9357.getD x9400.toNat 0)) fun (t9475 : Int) (t9476 : Bool) => (b2 (confidantref12_Input.f K l7 (l5368.getD x6754.toNat 0) (l9357.getD x9400.toNat 0)) fun (t9481 : Int) (t9482 : Bool) => (lt (fun (x9487 : Bool) => (if x9487 = true then (some false) else (confidantlaw14_InputTells.l2 K l9357 t5360 l5368 x6754 l7 j9353 n (IntKind.i64.wrap (x9400 + 1))))) fun j9488 => (if t9475 = t9481 then (j9488 (!((t9476 == t9482)))) else (j9488 true))))) else none) else (j9353 l9357)
def confidantlaw14_InputTells.l1 (K : Nat) (l5368 : List Int) (t5360 : List (List Int)) (l7 : List (List Int)) (a11 : Int) (a12 : Int) : Nat → Int → Option Bool
  | 0, _ => none
  | n + 1, x6754 => if x6754 < (l5368.length : Int) then (lt (fun (x9070 : List Int) => (confidantlaw14_InputTells.l1 K l5368 t5360 l7 a11 a12 n (IntKind.i64.wrap (x6754 + 1)))) fun j9073 => (if 0 ≤ x6754 then (lt (fun (x9350 : List Int) => (lt (fun (x9516 : Int) => (b1 (input_Inputs_Len.f K t5360 (l5368.getD x6754.toNat 0)) fun (t9532 : Int) => (if t9532 = x9516 then (j9073 x9350) else (some false)))) fun j9517 => (lt (fun (x9521 : Bool) => (if x9521 = true then (if 0 ≤ (l5368.getD x6754.toNat 0) then (if (l5368.getD x6754.toNat 0) < (l7.length : Int) then (j9517 ((l7.getD (l5368.getD x6754.toNat 0).toNat []).length : Int)) else none) else none) else (j9517 0))) fun j9522 => (if (l5368.getD x6754.toNat 0) ≥ 0 then (j9522 (decide ((l5368.getD x6754.toNat 0) < (l7.length : Int)))) else (j9522 false))))) fun j9353 => (lt ([a11, IntKind.i32.wrap ((IntKind.i32.wrap (Int.tmod (IntKind.u8.wrap (Int.tdiv a12 4)) 8)) - 1)] : List Int) fun l9357 => (confidantlaw14_InputTells.l2 K l9357 t5360 l5368 x6754 l7 j9353 K 0))) else none)) else (some true)
def confidantlaw14_InputTells.l0 (K : Nat) (l7 : List (List Int)) (j5293 : Option Bool) : Nat → Int → Option Bool
  | 0, _ => none
  | n + 1, x5312 => if x5312 < (l7.length : Int) then (if 0 ≤ x5312 then (if ((l7.getD x5312.toNat []).length : Int) > 70 then (some true) else (confidantlaw14_InputTells.l0 K l7 j5293 n (IntKind.i64.wrap (x5312 + 1)))) else none) else (j5293)
def confidantlaw14_InputTells.f (K : Nat) (l7 : List (List Int)) (a10 : Int) (a11 : Int) (a12 : Int) : Option Bool := b1 (confidantlaw14_known.f K) fun (t5166 : Bool) => (if t5166 = true then (if (l7.length : Int) > 20 then (some true) else (lt (b1 (input_New.f K l7) fun (t5360 : List (List Int)) => (lt ([a10, IntKind.i64.wrap ((IntKind.i64.wrap (Int.tmod a12 20)) - 1)] : List Int) fun l5368 => (confidantlaw14_InputTells.l1 K l5368 t5360 l7 a11 a12 K 0))) fun j5293 => (confidantlaw14_InputTells.l0 K l7 j5293 K 0))) else (some false))
set_option maxRecDepth 100000 in
theorem confidantlaw14_InputTells.calls {K : Nat} {l7 : List (List Int)} {a10 : Int} {a11 : Int} {a12 : Int} {A8 : Option Addr} {C9 : Nat} {x5158 : Bool} {B w : World} {os : List Ass} {rs : List Ro} (H : confidantlaw14_InputTells.f K l7 a10 a11 a12 = some x5158) (hS : St B w (os) (Ro.sl (Kd.slice (Kd.int .i32)) A8 C9 l7 :: rs)) :
    Calls Try.prog 12 [.slice A8 l7.length C9, .int .i64 a10, .int .i32 a11, .int .u8 a12].toArray w (fun en w' => ∃ v, en = .returned v ∧ v = .bool (x5158) ∧ St B w' (os) (Ro.sl (Kd.slice (Kd.int .i32)) A8 C9 l7 :: rs)) := by
  unfold confidantlaw14_InputTells.f at H
  refine calls_of_EW (args := [.slice A8 l7.length C9, .int .i64 a10, .int .i32 a11, .int .u8 a12]) (c := C12) 104 Try.func12 (by kernel_rfl) (by kernel_rfl) (by kernel_rfl) ?_
  refine EW.seq (x := C12.l) (y := C12.r) (by kernel_rfl) ?_
  refine EW.region (id := 0) (ops := C12.l.ops) (by kernel_rfl) ?_
  refine EL.quick 1 [0, 1, 2, 3] [(0, .slice A8 l7.length C9), (1, .int .i64 a10), (2, .int .i32 a11), (3, .int .u8 a12)] (by kernel_rfl) ?_
  refine EL.done (by kernel_rfl) ?_
  refine EQ.code ?_
  refine EW.seq (x := C12.r.l) (y := C12.r.r) (by kernel_rfl) ?_
  refine EW.seq (x := C12.r.l.l) (y := C12.r.l.r) (by kernel_rfl) ?_
  refine EW.region (id := 1) (ops := C12.r.l.l.ops) (by kernel_rfl) ?_
  obtain ⟨t5166, hc5167, H⟩ := b1_out H
  refine EL.of (EO.callD 38 [] _ 20 (by kernel_rfl) (by kernel_rfl) (by kernel_rfl) (confidantlaw14_known.calls hc5167 hS) ?_)
  rintro v w ⟨rfl, hS⟩
  refine EL.quick 1 [0, 1, 2, 3, 21] [(0, .slice A8 l7.length C9), (1, .int .i64 a10), (2, .int .i32 a11), (3, .int .u8 a12), (21, .bool (!(t5166)))] (by kernel_rfl) ?_
  refine EL.done (by kernel_rfl) ?_
  refine EQ.code ?_
  refine EW.condQ (b := !(t5166)) (o := (.tmp 21)) (x := C12.r.l.r.l) (y := C12.r.l.r.r) (t5166 = true) (false) (by kernel_rfl) (by kernel_rfl) ⟨fun h => (by rw [h] <;> rfl), fun h => (by rw [Bool.eq_false_iff.2 h] <;> rfl)⟩ (fun h5168 => ?_) (fun h5168 => ?_)
  · rw [if_pos h5168] at H
    refine EW.skip (by kernel_rfl) ?_
    refine EQ.code ?_
    refine EW.seq (x := C12.r.r.l) (y := C12.r.r.r) (by kernel_rfl) ?_
    refine EW.seq (x := C12.r.r.l.l) (y := C12.r.r.l.r) (by kernel_rfl) ?_
    refine EW.region (id := 3) (ops := C12.r.r.l.l.ops) (by kernel_rfl) ?_
    refine EL.quick 3 [0, 1, 2, 3, 24] [(0, .slice A8 l7.length C9), (1, .int .i64 a10), (2, .int .i32 a11), (3, .int .u8 a12), (24, .bool (decide ((l7.length : Int) > 20)))] (by kernel_rfl) ?_
    refine EL.done (by kernel_rfl) ?_
    refine EQ.code ?_
    refine EW.condP (o := (.tmp 24)) (x := C12.r.r.l.r.l) (y := C12.r.r.l.r.r) ((l7.length : Int) > 20) (by kernel_rfl) (by kernel_rfl) (fun h5170 => ?_) (fun h5170 => ?_)
    · rw [if_pos h5170] at H
      refine EW.seq (x := C12.r.r.l.r.l.l) (y := C12.r.r.l.r.l.r) (by kernel_rfl) ?_
      refine EW.region (id := 4) (ops := C12.r.r.l.r.l.l.ops) (by kernel_rfl) ?_
      refine EL.quick 1 [8] [(8, .bool (true))] (by kernel_rfl) ?_
      refine EL.done (by kernel_rfl) ?_
      refine EQ.code ?_
      refine EW.ret (by kernel_rfl) ?_
      refine EQ.ret ?_
      obtain rfl := Option.some.inj H
      exact EQ.leave (.bool (true)) (by kernel_rfl) ⟨_, rfl, rfl, (hS.re [] [] rfl (sub_self))⟩
    · rw [if_neg h5170] at H
      refine EW.skip (by kernel_rfl) ?_
      refine EQ.code ?_
      obtain ⟨j5293, hj5293, H⟩ := lt_out H
      refine EW.cut (x := C12.r.r.r.l) (y := C12.r.r.r.r) (fun a w => Sat 104 [(0, .slice A8 l7.length C9), (1, .int .i64 a10), (2, .int .i32 a11), (3, .int .u8 a12)] a ∧ St B w (os) (Ro.sl (Kd.slice (Kd.int .i32)) A8 C9 l7 :: rs) ∧ j5293 = some x5158) (by kernel_rfl) ?_ (fun a w hI => ?_)
      · refine EW.seq (x := C12.r.r.r.l.l) (y := C12.r.r.r.l.r) (by kernel_rfl) ?_
        refine EW.region (id := 5) (ops := C12.r.r.r.l.l.ops) (by kernel_rfl) ?_
        refine EL.quick 1 [0, 1, 2, 3, 9] [(0, .slice A8 l7.length C9), (1, .int .i64 a10), (2, .int .i32 a11), (3, .int .u8 a12), (9, .int .i64 0)] (by kernel_rfl) ?_
        refine EL.done (by kernel_rfl) ?_
        refine EQ.code ?_
        refine EW.block (x := C12.r.r.r.l.r.l) (id := 0) (by kernel_rfl) ?_
        refine EW.loop (x := C12.r.r.r.l.r.l.l) (fun n a w => ∃ x5312 : Int, Sat 104 [(0, .slice A8 l7.length C9), (1, .int .i64 a10), (2, .int .i32 a11), (3, .int .u8 a12), (9, .int .i64 x5312)] a ∧ St B w (os) (Ro.sl (Kd.slice (Kd.int .i32)) A8 C9 l7 :: rs) ∧ confidantlaw14_InputTells.l0 K l7 j5293 n x5312 = some x5158) K (by kernel_rfl) ?_ (fun n a w hI => ?_)
        · refine EQ.keep [0, 1, 2, 3, 9] [(0, .slice A8 l7.length C9), (1, .int .i64 a10), (2, .int .i32 a11), (3, .int .u8 a12), (9, .int .i64 0)] (by kernel_rfl) ?_
          exact fun a ha => ⟨0, ha, (hS.re [] [] rfl (sub_cons 0 rfl (sub_tail (sub_self)))), H⟩
        · obtain ⟨x5312, ha, hS, H⟩ := hI
          obtain _ | n := n
          · simp [confidantlaw14_InputTells.l0] at H
          rw [confidantlaw14_InputTells.l0.eq_2] at H
          refine EW.at ?_ a ha
          clear ha a
          refine EW.seq (x := C12.r.r.r.l.r.l.l.l) (y := C12.r.r.r.l.r.l.l.r) (by kernel_rfl) ?_
          refine EW.seq (x := C12.r.r.r.l.r.l.l.l.l) (y := C12.r.r.r.l.r.l.l.l.r) (by kernel_rfl) ?_
          refine EW.region (id := 6) (ops := C12.r.r.r.l.r.l.l.l.l.ops) (by kernel_rfl) ?_
          refine EL.quick 4 [0, 1, 2, 3, 9, 28] [(0, .slice A8 l7.length C9), (1, .int .i64 a10), (2, .int .i32 a11), (3, .int .u8 a12), (9, .int .i64 x5312), (28, .bool (decide (x5312 < (l7.length : Int))))] (by kernel_rfl) ?_
          refine EL.done (by kernel_rfl) ?_
          refine EQ.code ?_
          refine EW.condP (o := (.tmp 28)) (x := C12.r.r.r.l.r.l.l.l.r.l) (y := C12.r.r.r.l.r.l.l.l.r.r) (x5312 < (l7.length : Int)) (by kernel_rfl) (by kernel_rfl) (fun h5336 => ?_) (fun h5336 => ?_)
          · rw [if_pos h5336] at H
            refine EW.skip (by kernel_rfl) ?_
            refine EQ.code ?_
            refine EW.seq (x := C12.r.r.r.l.r.l.l.r.l) (y := C12.r.r.r.l.r.l.l.r.r) (by kernel_rfl) ?_
            refine EW.block (x := C12.r.r.r.l.r.l.l.r.l.l) (id := 1) (by kernel_rfl) ?_
            refine EW.seq (x := C12.r.r.r.l.r.l.l.r.l.l.l) (y := C12.r.r.r.l.r.l.l.r.l.l.r) (by kernel_rfl) ?_
            refine EW.region (id := 8) (ops := C12.r.r.r.l.r.l.l.r.l.l.l.ops) (by kernel_rfl) ?_
            refine EL.quick 2 [0, 1, 2, 3, 9, 31, 32] [(0, .slice A8 l7.length C9), (1, .int .i64 a10), (2, .int .i32 a11), (3, .int .u8 a12), (9, .int .i64 x5312), (31, .slice A8 l7.length C9), (32, .int .i64 x5312)] (by kernel_rfl) ?_
            obtain ⟨h5350, H⟩ := ite_in H
            obtain ⟨ad5351, rfl⟩ := St.rd_some hS (Rd.ro 0 rfl) h5350 h5336
            refine EL.of (EO.Y (YO.idx 51 1 ad5351 l7.length C9 .i64 x5312 33 (by kernel_rfl) (by kernel_rfl) (by kernel_rfl) (by kernel_rfl) h5350 h5336) ?_)
            refine EL.of (EO.loadSl hS (Kd.int .i32) ad5351 C9 l7 (Rd.ro 0 rfl) x5312 h5350 h5336 40 34 (by kernel_rfl) (by kernel_rfl) (by kernel_rfl) (by kernel_rfl) ?_)
            intro A5352 C5353 hS
            refine EL.quick 2 [0, 1, 2, 3, 9, 36] [(0, .slice (some ad5351) l7.length C9), (1, .int .i64 a10), (2, .int .i32 a11), (3, .int .u8 a12), (9, .int .i64 x5312), (36, .bool (decide (((l7.getD x5312.toNat []).length : Int) > 70)))] (by kernel_rfl) ?_
            refine EL.done (by kernel_rfl) ?_
            refine EQ.code ?_
            refine EW.condP (o := (.tmp 36)) (x := C12.r.r.r.l.r.l.l.r.l.l.r.l) (y := C12.r.r.r.l.r.l.l.r.l.l.r.r) (((l7.getD x5312.toNat []).length : Int) > 70) (by kernel_rfl) (by kernel_rfl) (fun h5354 => ?_) (fun h5354 => ?_)
            · rw [if_pos h5354] at H
              refine EW.seq (x := C12.r.r.r.l.r.l.l.r.l.l.r.l.l) (y := C12.r.r.r.l.r.l.l.r.l.l.r.l.r) (by kernel_rfl) ?_
              refine EW.region (id := 9) (ops := C12.r.r.r.l.r.l.l.r.l.l.r.l.l.ops) (by kernel_rfl) ?_
              refine EL.quick 1 [8] [(8, .bool (true))] (by kernel_rfl) ?_
              refine EL.done (by kernel_rfl) ?_
              refine EQ.code ?_
              refine EW.ret (by kernel_rfl) ?_
              refine EQ.ret ?_
              refine EQ.ret ?_
              refine EQ.ret ?_
              refine EQ.ret ?_
              refine EQ.ret ?_
              obtain rfl := Option.some.inj H
              exact EQ.leave (.bool (true)) (by kernel_rfl) ⟨_, rfl, rfl, (hS.re [] [] rfl (sub_tail (sub_self)))⟩
            · rw [if_neg h5354] at H
              refine EW.skip (by kernel_rfl) ?_
              refine EQ.pop ?_
              refine EQ.code ?_
              refine EW.region (id := 7) (ops := C12.r.r.r.l.r.l.l.r.r.ops) (by kernel_rfl) ?_
              refine EL.quick 3 [0, 1, 2, 3, 9] [(0, .slice (some ad5351) l7.length C9), (1, .int .i64 a10), (2, .int .i32 a11), (3, .int .u8 a12), (9, .int .i64 (IntKind.i64.wrap (x5312 + 1)))] (by kernel_rfl) ?_
              refine EL.done (by kernel_rfl) ?_
              refine EQ.to ?_
              refine EQ.keep [0, 1, 2, 3, 9] [(0, .slice (some ad5351) l7.length C9), (1, .int .i64 a10), (2, .int .i32 a11), (3, .int .u8 a12), (9, .int .i64 (IntKind.i64.wrap (x5312 + 1)))] (by kernel_rfl) ?_
              exact fun a ha => ⟨n, Nat.lt_succ_self n, IntKind.i64.wrap (x5312 + 1), ha, (hS.re [] [] rfl (sub_cons 1 rfl (sub_tail (sub_tail (sub_self))))), H⟩
          · rw [if_neg h5336] at H
            refine EW.exit (id := 0) (by kernel_rfl) ?_
            refine EQ.exitCode ?_
            refine EQ.exitTo ?_
            refine EQ.exitHere ?_
            refine EQ.to ?_
            refine EQ.keep [0, 1, 2, 3] [(0, .slice A8 l7.length C9), (1, .int .i64 a10), (2, .int .i32 a11), (3, .int .u8 a12)] (by kernel_rfl) ?_
            exact fun a ha => ⟨ha, (hS.re [] [] rfl (sub_cons 0 rfl (sub_tail (sub_self)))), H⟩
      · obtain ⟨ha, hS, H⟩ := hI
        rw [hj5293] at H
        (try dsimp only at H)
        refine EW.at ?_ a ha
        clear ha a
        refine EW.seq (x := C12.r.r.r.r.l) (y := C12.r.r.r.r.r) (by kernel_rfl) ?_
        refine EW.region (id := 10) (ops := C12.r.r.r.r.l.ops) (by kernel_rfl) ?_
        refine EL.quick 1 [0, 1, 2, 3, 37] [(0, .slice A8 l7.length C9), (1, .int .i64 a10), (2, .int .i32 a11), (3, .int .u8 a12), (37, .slice A8 l7.length C9)] (by kernel_rfl) ?_
        have hS : St B _ (os) (Ro.sl (Kd.slice (Kd.int .i32)) A8 C9 l7 :: Ro.sl (Kd.slice (Kd.int .i32)) A8 C9 l7 :: rs) := hS.re [] [] rfl (sub_cons 0 rfl sub_self)
        obtain ⟨t5360, hc5364, H⟩ := b1_out H
        refine EL.of (EO.callD 39 [.slice A8 l7.length C9] _ 38 (by kernel_rfl) (by kernel_rfl) (by kernel_rfl) (input_New.calls hc5364 hS) ?_)
        rintro v w ⟨g5361, A5362, C5363, rfl, hS⟩
        refine EL.quick 1 [0, 1, 2, 3, 10] [(0, .slice A8 l7.length C9), (1, .int .i64 a10), (2, .int .i32 a11), (3, .int .u8 a12), (10, .pointer (some ⟨g5361, 0, none⟩))] (by kernel_rfl) ?_
        refine EL.done (by kernel_rfl) ?_
        refine EQ.code ?_
        refine EW.seq (x := C12.r.r.r.r.r.l) (y := C12.r.r.r.r.r.r) (by kernel_rfl) ?_
        refine EW.seq (x := C12.r.r.r.r.r.l.l) (y := C12.r.r.r.r.r.l.r) (by kernel_rfl) ?_
        refine EW.region (id := 11) (ops := C12.r.r.r.r.r.l.l.ops) (by kernel_rfl) ?_
        refine EL.quick 5 [0, 2, 3, 10, 39, 43] [(0, .slice A8 l7.length C9), (2, .int .i32 a11), (3, .int .u8 a12), (10, .pointer (some ⟨g5361, 0, none⟩)), (39, .int .i64 a10), (43, .int .i64 (IntKind.i64.wrap ((IntKind.i64.wrap (Int.tmod a12 20)) - 1)))] (by kernel_rfl) ?_
        obtain ⟨l5368, hl5368, H⟩ := lt_out H
        refine EL.of (EO.lit hS (Kd.int .i64) 3 23 2 #[(0, .int .i64 a10), (1, .int .i64 (IntKind.i64.wrap ((IntKind.i64.wrap (Int.tmod a12 20)) - 1)))] [.int .i64 a10, .int .i64 (IntKind.i64.wrap ((IntKind.i64.wrap (Int.tmod a12 20)) - 1))] l5368 44 (by kernel_rfl) (by kernel_rfl) (by kernel_rfl) (fun _ => (by kernel_rfl)) (by rw [hl5368]; rfl) (by kernel_rfl) (fun w G hr => (by rw [hl5368]; exact ⟨[.int .i64 a10], [.int .i64 (IntKind.i64.wrap ((IntKind.i64.wrap (Int.tmod a12 20)) - 1))], rfl, rfl, ⟨[.int .i64 (IntKind.i64.wrap ((IntKind.i64.wrap (Int.tmod a12 20)) - 1))], [], rfl, rfl, rfl⟩⟩)) ?_)
        intro g5367 w hS
        refine EL.quick 2 [0, 2, 3, 10, 44, 45, 46] [(0, .slice A8 l7.length C9), (2, .int .i32 a11), (3, .int .u8 a12), (10, .pointer (some ⟨g5361, 0, none⟩)), (44, .slice (some ⟨g5367, 0, none⟩) l5368.length 2), (45, .int .i64 (l5368.length : Int)), (46, .int .i64 0)] (by kernel_rfl) ?_
        refine EL.done (by kernel_rfl) ?_
        refine EQ.code ?_
        refine EW.block (x := C12.r.r.r.r.r.l.r.l) (id := 2) (by kernel_rfl) ?_
        refine EW.loop (x := C12.r.r.r.r.r.l.r.l.l) (fun n a w => ∃ x6754 : Int, Sat 104 [(0, .slice A8 l7.length C9), (2, .int .i32 a11), (3, .int .u8 a12), (10, .pointer (some ⟨g5361, 0, none⟩)), (44, .slice (some ⟨g5367, 0, none⟩) l5368.length 2), (45, .int .i64 (l5368.length : Int)), (46, .int .i64 x6754)] a ∧ St B w (Ass.own 3 (Kd.int .i64) (some ⟨g5367, 0, none⟩) 2 l5368 :: Ass.box 67 g5361 [.slice A5362 t5360.length C5363] :: Ass.deep 40 21 (Kd.int .i32) A5362 C5363 t5360 :: os) (Ro.sl (Kd.slice (Kd.int .i32)) A8 C9 l7 :: Ro.sl (Kd.slice (Kd.int .i32)) A8 C9 l7 :: rs) ∧ confidantlaw14_InputTells.l1 K l5368 t5360 l7 a11 a12 n x6754 = some x5158) K (by kernel_rfl) ?_ (fun n a w hI => ?_)
        · refine EQ.keep [0, 2, 3, 10, 44, 45, 46] [(0, .slice A8 l7.length C9), (2, .int .i32 a11), (3, .int .u8 a12), (10, .pointer (some ⟨g5361, 0, none⟩)), (44, .slice (some ⟨g5367, 0, none⟩) l5368.length 2), (45, .int .i64 (l5368.length : Int)), (46, .int .i64 0)] (by kernel_rfl) ?_
          exact fun a ha => ⟨0, ha, (hS.re [2, 2, 2] [] rfl (sub_cons 0 rfl (sub_cons 0 rfl (sub_tail (sub_tail (sub_self)))))), H⟩
        · obtain ⟨x6754, ha, hS, H⟩ := hI
          obtain _ | n := n
          · simp [confidantlaw14_InputTells.l1] at H
          rw [confidantlaw14_InputTells.l1.eq_2] at H
          refine EW.at ?_ a ha
          clear ha a
          refine EW.seq (x := C12.r.r.r.r.r.l.r.l.l.l) (y := C12.r.r.r.r.r.l.r.l.l.r) (by kernel_rfl) ?_
          refine EW.region (id := 12) (ops := C12.r.r.r.r.r.l.r.l.l.l.ops) (by kernel_rfl) ?_
          refine EL.quick 1 [0, 2, 3, 10, 44, 45, 46, 47] [(0, .slice A8 l7.length C9), (2, .int .i32 a11), (3, .int .u8 a12), (10, .pointer (some ⟨g5361, 0, none⟩)), (44, .slice (some ⟨g5367, 0, none⟩) l5368.length 2), (45, .int .i64 (l5368.length : Int)), (46, .int .i64 x6754), (47, .bool (decide (x6754 < (l5368.length : Int))))] (by kernel_rfl) ?_
          refine EL.done (by kernel_rfl) ?_
          refine EQ.code ?_
          refine EW.seq (x := C12.r.r.r.r.r.l.r.l.l.r.l) (y := C12.r.r.r.r.r.l.r.l.l.r.r) (by kernel_rfl) ?_
          refine EW.condP (o := (.tmp 47)) (x := C12.r.r.r.r.r.l.r.l.l.r.l.l) (y := C12.r.r.r.r.r.l.r.l.l.r.l.r) (x6754 < (l5368.length : Int)) (by kernel_rfl) (by kernel_rfl) (fun h8147 => ?_) (fun h8147 => ?_)
          · rw [if_pos h8147] at H
            refine EW.skip (by kernel_rfl) ?_
            refine EQ.code ?_
            obtain ⟨j9073, hj9073, H⟩ := lt_out H
            refine EW.cut (x := C12.r.r.r.r.r.l.r.l.l.r.r.l) (y := C12.r.r.r.r.r.l.r.l.l.r.r.r) (fun a w => ∃ x9070 : List Int, ∃ A9071 : Option Addr, ∃ C9072 : Nat, Sat 104 [(0, .slice A8 l7.length C9), (2, .int .i32 a11), (3, .int .u8 a12), (10, .pointer (some ⟨g5361, 0, none⟩)), (44, .slice (some ⟨g5367, 0, none⟩) l5368.length 2), (45, .int .i64 (l5368.length : Int)), (46, .int .i64 x6754)] a ∧ St B w (Ass.box 67 g5361 [.slice A5362 t5360.length C5363] :: Ass.deep 40 21 (Kd.int .i32) A5362 C5363 t5360 :: Ass.own 21 (Kd.int .i32) A9071 C9072 x9070 :: Ass.own 3 (Kd.int .i64) (some ⟨g5367, 0, none⟩) 2 l5368 :: os) (Ro.sl (Kd.slice (Kd.int .i32)) A8 C9 l7 :: Ro.sl (Kd.slice (Kd.int .i32)) A8 C9 l7 :: rs) ∧ j9073 x9070 = some x5158) (by kernel_rfl) ?_ (fun a w hI => ?_)
            · refine EW.block (x := C12.r.r.r.r.r.l.r.l.l.r.r.l.l) (id := 3) (by kernel_rfl) ?_
              refine EW.seq (x := C12.r.r.r.r.r.l.r.l.l.r.r.l.l.l) (y := C12.r.r.r.r.r.l.r.l.l.r.r.l.l.r) (by kernel_rfl) ?_
              refine EW.region (id := 13) (ops := C12.r.r.r.r.r.l.r.l.l.r.r.l.l.l.ops) (by kernel_rfl) ?_
              obtain ⟨h9075, H⟩ := ite_in H
              refine EL.of (EO.Y (YO.idx 23 1 ⟨g5367, 0, none⟩ l5368.length 2 .i64 x6754 48 (by kernel_rfl) (by kernel_rfl) (by kernel_rfl) (by kernel_rfl) h9075 h8147) ?_)
              refine EL.of (EO.Y (YO.loadEl hS (Kd.int .i64) ⟨g5367, 0, none⟩ 2 l5368 (Rd.own 0 3 rfl) 0 (encI .i64) encI_of x6754 h9075 h8147 3 1 0 1 rfl (.int .i64 (l5368.getD x6754.toNat 0)) 49 (by kernel_rfl) (by kernel_rfl) (by kernel_rfl) (by kernel_rfl)) ?_)
              refine EL.quick 1 [0, 2, 3, 10, 12, 44, 45, 46] [(0, .slice A8 l7.length C9), (2, .int .i32 a11), (3, .int .u8 a12), (10, .pointer (some ⟨g5361, 0, none⟩)), (12, .int .i64 (l5368.getD x6754.toNat 0)), (44, .slice (some ⟨g5367, 0, none⟩) l5368.length 2), (45, .int .i64 (l5368.length : Int)), (46, .int .i64 x6754)] (by kernel_rfl) ?_
              refine EL.done (by kernel_rfl) ?_
              refine EQ.code ?_
              obtain ⟨j9353, hj9353, H⟩ := lt_out H
              refine EW.cut (x := C12.r.r.r.r.r.l.r.l.l.r.r.l.l.r.l) (y := C12.r.r.r.r.r.l.r.l.l.r.r.l.l.r.r) (fun a w => ∃ x9350 : List Int, ∃ A9351 : Option Addr, ∃ C9352 : Nat, Sat 104 [(0, .slice A8 l7.length C9), (2, .int .i32 a11), (3, .int .u8 a12), (10, .pointer (some ⟨g5361, 0, none⟩)), (12, .int .i64 (l5368.getD x6754.toNat 0)), (44, .slice (some ⟨g5367, 0, none⟩) l5368.length 2), (45, .int .i64 (l5368.length : Int)), (46, .int .i64 x6754)] a ∧ St B w (Ass.own 21 (Kd.int .i32) A9351 C9352 x9350 :: Ass.own 3 (Kd.int .i64) (some ⟨g5367, 0, none⟩) 2 l5368 :: Ass.box 67 g5361 [.slice A5362 t5360.length C5363] :: Ass.deep 40 21 (Kd.int .i32) A5362 C5363 t5360 :: os) (Ro.sl (Kd.slice (Kd.int .i32)) A8 C9 l7 :: Ro.sl (Kd.slice (Kd.int .i32)) A8 C9 l7 :: rs) ∧ j9353 x9350 = some x5158) (by kernel_rfl) ?_ (fun a w hI => ?_)
              · refine EW.seq (x := C12.r.r.r.r.r.l.r.l.l.r.r.l.l.r.l.l) (y := C12.r.r.r.r.r.l.r.l.l.r.r.l.l.r.l.r) (by kernel_rfl) ?_
                refine EW.region (id := 14) (ops := C12.r.r.r.r.r.l.r.l.l.r.r.l.l.r.l.l.ops) (by kernel_rfl) ?_
                refine EL.quick 6 [0, 2, 3, 10, 12, 44, 45, 46, 50, 55] [(0, .slice A8 l7.length C9), (2, .int .i32 a11), (3, .int .u8 a12), (10, .pointer (some ⟨g5361, 0, none⟩)), (12, .int .i64 (l5368.getD x6754.toNat 0)), (44, .slice (some ⟨g5367, 0, none⟩) l5368.length 2), (45, .int .i64 (l5368.length : Int)), (46, .int .i64 x6754), (50, .int .i32 a11), (55, .int .i32 (IntKind.i32.wrap ((IntKind.i32.wrap (Int.tmod (IntKind.u8.wrap (Int.tdiv a12 4)) 8)) - 1)))] (by kernel_rfl) ?_
                obtain ⟨l9357, hl9357, H⟩ := lt_out H
                refine EL.of (EO.lit hS (Kd.int .i32) 21 40 2 #[(0, .int .i32 a11), (1, .int .i32 (IntKind.i32.wrap ((IntKind.i32.wrap (Int.tmod (IntKind.u8.wrap (Int.tdiv a12 4)) 8)) - 1)))] [.int .i32 a11, .int .i32 (IntKind.i32.wrap ((IntKind.i32.wrap (Int.tmod (IntKind.u8.wrap (Int.tdiv a12 4)) 8)) - 1))] l9357 56 (by kernel_rfl) (by kernel_rfl) (by kernel_rfl) (fun _ => (by kernel_rfl)) (by rw [hl9357]; rfl) (by kernel_rfl) (fun w G hr => (by rw [hl9357]; exact ⟨[.int .i32 a11], [.int .i32 (IntKind.i32.wrap ((IntKind.i32.wrap (Int.tmod (IntKind.u8.wrap (Int.tdiv a12 4)) 8)) - 1))], rfl, rfl, ⟨[.int .i32 (IntKind.i32.wrap ((IntKind.i32.wrap (Int.tmod (IntKind.u8.wrap (Int.tdiv a12 4)) 8)) - 1))], [], rfl, rfl, rfl⟩⟩)) ?_)
                intro g9356 w hS
                refine EL.quick 2 [0, 2, 3, 10, 12, 44, 45, 46, 56, 57, 58] [(0, .slice A8 l7.length C9), (2, .int .i32 a11), (3, .int .u8 a12), (10, .pointer (some ⟨g5361, 0, none⟩)), (12, .int .i64 (l5368.getD x6754.toNat 0)), (44, .slice (some ⟨g5367, 0, none⟩) l5368.length 2), (45, .int .i64 (l5368.length : Int)), (46, .int .i64 x6754), (56, .slice (some ⟨g9356, 0, none⟩) l9357.length 2), (57, .int .i64 (l9357.length : Int)), (58, .int .i64 0)] (by kernel_rfl) ?_
                refine EL.done (by kernel_rfl) ?_
                refine EQ.code ?_
                refine EW.block (x := C12.r.r.r.r.r.l.r.l.l.r.r.l.l.r.l.r.l) (id := 4) (by kernel_rfl) ?_
                refine EW.loop (x := C12.r.r.r.r.r.l.r.l.l.r.r.l.l.r.l.r.l.l) (fun n a w => ∃ x9400 : Int, Sat 104 [(0, .slice A8 l7.length C9), (2, .int .i32 a11), (3, .int .u8 a12), (10, .pointer (some ⟨g5361, 0, none⟩)), (12, .int .i64 (l5368.getD x6754.toNat 0)), (44, .slice (some ⟨g5367, 0, none⟩) l5368.length 2), (45, .int .i64 (l5368.length : Int)), (46, .int .i64 x6754), (56, .slice (some ⟨g9356, 0, none⟩) l9357.length 2), (57, .int .i64 (l9357.length : Int)), (58, .int .i64 x9400)] a ∧ St B w (Ass.own 21 (Kd.int .i32) (some ⟨g9356, 0, none⟩) 2 l9357 :: Ass.own 3 (Kd.int .i64) (some ⟨g5367, 0, none⟩) 2 l5368 :: Ass.box 67 g5361 [.slice A5362 t5360.length C5363] :: Ass.deep 40 21 (Kd.int .i32) A5362 C5363 t5360 :: os) (Ro.sl (Kd.slice (Kd.int .i32)) A8 C9 l7 :: Ro.sl (Kd.slice (Kd.int .i32)) A8 C9 l7 :: rs) ∧ confidantlaw14_InputTells.l2 K l9357 t5360 l5368 x6754 l7 j9353 n x9400 = some x5158) K (by kernel_rfl) ?_ (fun n a w hI => ?_)
                · refine EQ.keep [0, 2, 3, 10, 12, 44, 45, 46, 56, 57, 58] [(0, .slice A8 l7.length C9), (2, .int .i32 a11), (3, .int .u8 a12), (10, .pointer (some ⟨g5361, 0, none⟩)), (12, .int .i64 (l5368.getD x6754.toNat 0)), (44, .slice (some ⟨g5367, 0, none⟩) l5368.length 2), (45, .int .i64 (l5368.length : Int)), (46, .int .i64 x6754), (56, .slice (some ⟨g9356, 0, none⟩) l9357.length 2), (57, .int .i64 (l9357.length : Int)), (58, .int .i64 0)] (by kernel_rfl) ?_
                  exact fun a ha => ⟨0, ha, (hS.re [3, 3, 3, 3] [] rfl (sub_cons 0 rfl (sub_cons 0 rfl (sub_tail (sub_tail (sub_self)))))), H⟩
                · obtain ⟨x9400, ha, hS, H⟩ := hI
                  obtain _ | n := n
                  · simp [confidantlaw14_InputTells.l2] at H
                  rw [confidantlaw14_InputTells.l2.eq_2] at H
                  refine EW.at ?_ a ha
                  clear ha a
                  refine EW.seq (x := C12.r.r.r.r.r.l.r.l.l.r.r.l.l.r.l.r.l.l.l) (y := C12.r.r.r.r.r.l.r.l.l.r.r.l.l.r.l.r.l.l.r) (by kernel_rfl) ?_
                  refine EW.region (id := 15) (ops := C12.r.r.r.r.r.l.r.l.l.r.r.l.l.r.l.r.l.l.l.ops) (by kernel_rfl) ?_
                  refine EL.quick 1 [0, 2, 3, 10, 12, 44, 45, 46, 56, 57, 58, 59] [(0, .slice A8 l7.length C9), (2, .int .i32 a11), (3, .int .u8 a12), (10, .pointer (some ⟨g5361, 0, none⟩)), (12, .int .i64 (l5368.getD x6754.toNat 0)), (44, .slice (some ⟨g5367, 0, none⟩) l5368.length 2), (45, .int .i64 (l5368.length : Int)), (46, .int .i64 x6754), (56, .slice (some ⟨g9356, 0, none⟩) l9357.length 2), (57, .int .i64 (l9357.length : Int)), (58, .int .i64 x9400), (59, .bool (decide (x9400 < (l9357.length : Int))))] (by kernel_rfl) ?_
                  refine EL.done (by kernel_rfl) ?_
                  refine EQ.code ?_
                  refine EW.seq (x := C12.r.r.r.r.r.l.r.l.l.r.r.l.l.r.l.r.l.l.r.l) (y := C12.r.r.r.r.r.l.r.l.l.r.r.l.l.r.l.r.l.l.r.r) (by kernel_rfl) ?_
                  refine EW.condP (o := (.tmp 59)) (x := C12.r.r.r.r.r.l.r.l.l.r.r.l.l.r.l.r.l.l.r.l.l) (y := C12.r.r.r.r.r.l.r.l.l.r.r.l.l.r.l.r.l.l.r.l.r) (x9400 < (l9357.length : Int)) (by kernel_rfl) (by kernel_rfl) (fun h9448 => ?_) (fun h9448 => ?_)
                  · rw [if_pos h9448] at H
                    refine EW.skip (by kernel_rfl) ?_
                    refine EQ.code ?_
                    refine EW.seq (x := C12.r.r.r.r.r.l.r.l.l.r.r.l.l.r.l.r.l.l.r.r.l) (y := C12.r.r.r.r.r.l.r.l.l.r.r.l.l.r.l.r.l.l.r.r.r) (by kernel_rfl) ?_
                    refine EW.block (x := C12.r.r.r.r.r.l.r.l.l.r.r.l.l.r.l.r.l.l.r.r.l.l) (id := 5) (by kernel_rfl) ?_
                    refine EW.seq (x := C12.r.r.r.r.r.l.r.l.l.r.r.l.l.r.l.r.l.l.r.r.l.l.l) (y := C12.r.r.r.r.r.l.r.l.l.r.r.l.l.r.l.r.l.l.r.r.l.l.r) (by kernel_rfl) ?_
                    refine EW.region (id := 16) (ops := C12.r.r.r.r.r.l.r.l.l.r.r.l.l.r.l.r.l.l.r.r.l.l.l.ops) (by kernel_rfl) ?_
                    obtain ⟨h9471, H⟩ := ite_in H
                    refine EL.of (EO.Y (YO.idx 40 1 ⟨g9356, 0, none⟩ l9357.length 2 .i64 x9400 60 (by kernel_rfl) (by kernel_rfl) (by kernel_rfl) (by kernel_rfl) h9471 h9448) ?_)
                    refine EL.of (EO.Y (YO.loadEl hS (Kd.int .i32) ⟨g9356, 0, none⟩ 2 l9357 (Rd.own 0 21 rfl) 0 (encI .i32) encI_of x9400 h9471 h9448 21 1 0 1 rfl (.int .i32 (l9357.getD x9400.toNat 0)) 61 (by kernel_rfl) (by kernel_rfl) (by kernel_rfl) (by kernel_rfl)) ?_)
                    refine EL.quick 1 [0, 2, 3, 10, 12, 14, 44, 45, 46, 56, 57, 58] [(0, .slice A8 l7.length C9), (2, .int .i32 a11), (3, .int .u8 a12), (10, .pointer (some ⟨g5361, 0, none⟩)), (12, .int .i64 (l5368.getD x6754.toNat 0)), (14, .int .i32 (l9357.getD x9400.toNat 0)), (44, .slice (some ⟨g5367, 0, none⟩) l5368.length 2), (45, .int .i64 (l5368.length : Int)), (46, .int .i64 x6754), (56, .slice (some ⟨g9356, 0, none⟩) l9357.length 2), (57, .int .i64 (l9357.length : Int)), (58, .int .i64 x9400)] (by kernel_rfl) ?_
                    refine EL.done (by kernel_rfl) ?_
                    refine EQ.code ?_
                    refine EW.seq (x := C12.r.r.r.r.r.l.r.l.l.r.r.l.l.r.l.r.l.l.r.r.l.l.r.l) (y := C12.r.r.r.r.r.l.r.l.l.r.r.l.l.r.l.r.l.l.r.r.l.l.r.r) (by kernel_rfl) ?_
                    refine EW.region (id := 17) (ops := C12.r.r.r.r.r.l.r.l.l.r.r.l.l.r.l.r.l.l.r.r.l.l.r.l.ops) (by kernel_rfl) ?_
                    refine EL.quick 3 [0, 2, 3, 10, 12, 14, 44, 45, 46, 56, 57, 58, 63, 64, 65] [(0, .slice A8 l7.length C9), (2, .int .i32 a11), (3, .int .u8 a12), (10, .pointer (some ⟨g5361, 0, none⟩)), (12, .int .i64 (l5368.getD x6754.toNat 0)), (14, .int .i32 (l9357.getD x9400.toNat 0)), (44, .slice (some ⟨g5367, 0, none⟩) l5368.length 2), (45, .int .i64 (l5368.length : Int)), (46, .int .i64 x6754), (56, .slice (some ⟨g9356, 0, none⟩) l9357.length 2), (57, .int .i64 (l9357.length : Int)), (58, .int .i64 x9400), (63, .pointer (some ⟨g5361, 0, none⟩)), (64, .int .i64 (l5368.getD x6754.toNat 0)), (65, .int .i32 (l9357.getD x9400.toNat 0))] (by kernel_rfl) ?_
                    have hS : St B _ (Ass.box 67 g5361 [.slice A5362 t5360.length C5363] :: Ass.deep 40 21 (Kd.int .i32) A5362 C5363 t5360 :: Ass.own 21 (Kd.int .i32) (some ⟨g9356, 0, none⟩) 2 l9357 :: Ass.own 3 (Kd.int .i64) (some ⟨g5367, 0, none⟩) 2 l5368 :: os) (Ro.sl (Kd.slice (Kd.int .i32)) A8 C9 l7 :: Ro.sl (Kd.slice (Kd.int .i32)) A8 C9 l7 :: rs) := hS.re [3, 3] [] rfl sub_self
                    obtain ⟨t9475, t9476, hc9477, H⟩ := b2_out H
                    refine EL.of (EO.callD 40 [.pointer (some ⟨g5361, 0, none⟩), .int .i64 (l5368.getD x6754.toNat 0), .int .i32 (l9357.getD x9400.toNat 0)] _ 66 (by kernel_rfl) (by kernel_rfl) (by kernel_rfl) (input_Inputs_Get.calls hc9477 hS) ?_)
                    rintro v w ⟨rfl, hS⟩
                    refine EL.quick 5 [0, 2, 3, 10, 12, 14, 15, 16, 44, 45, 46, 56, 57, 58] [(0, .slice A8 l7.length C9), (2, .int .i32 a11), (3, .int .u8 a12), (10, .pointer (some ⟨g5361, 0, none⟩)), (12, .int .i64 (l5368.getD x6754.toNat 0)), (14, .int .i32 (l9357.getD x9400.toNat 0)), (15, .int .i32 t9475), (16, .bool (t9476)), (44, .slice (some ⟨g5367, 0, none⟩) l5368.length 2), (45, .int .i64 (l5368.length : Int)), (46, .int .i64 x6754), (56, .slice (some ⟨g9356, 0, none⟩) l9357.length 2), (57, .int .i64 (l9357.length : Int)), (58, .int .i64 x9400)] (by kernel_rfl) ?_
                    refine EL.done (by kernel_rfl) ?_
                    refine EQ.code ?_
                    refine EW.seq (x := C12.r.r.r.r.r.l.r.l.l.r.r.l.l.r.l.r.l.l.r.r.l.l.r.r.l) (y := C12.r.r.r.r.r.l.r.l.l.r.r.l.l.r.l.r.l.l.r.r.l.l.r.r.r) (by kernel_rfl) ?_
                    refine EW.region (id := 18) (ops := C12.r.r.r.r.r.l.r.l.l.r.r.l.l.r.l.r.l.l.r.r.l.l.r.r.l.ops) (by kernel_rfl) ?_
                    refine EL.quick 3 [0, 2, 3, 10, 12, 15, 16, 44, 45, 46, 56, 57, 58, 70, 71, 72] [(0, .slice A8 l7.length C9), (2, .int .i32 a11), (3, .int .u8 a12), (10, .pointer (some ⟨g5361, 0, none⟩)), (12, .int .i64 (l5368.getD x6754.toNat 0)), (15, .int .i32 t9475), (16, .bool (t9476)), (44, .slice (some ⟨g5367, 0, none⟩) l5368.length 2), (45, .int .i64 (l5368.length : Int)), (46, .int .i64 x6754), (56, .slice (some ⟨g9356, 0, none⟩) l9357.length 2), (57, .int .i64 (l9357.length : Int)), (58, .int .i64 x9400), (70, .slice A8 l7.length C9), (71, .int .i64 (l5368.getD x6754.toNat 0)), (72, .int .i32 (l9357.getD x9400.toNat 0))] (by kernel_rfl) ?_
                    have hS : St B _ (Ass.box 67 g5361 [.slice A5362 t5360.length C5363] :: Ass.deep 40 21 (Kd.int .i32) A5362 C5363 t5360 :: Ass.own 21 (Kd.int .i32) (some ⟨g9356, 0, none⟩) 2 l9357 :: Ass.own 3 (Kd.int .i64) (some ⟨g5367, 0, none⟩) 2 l5368 :: os) (Ro.sl (Kd.slice (Kd.int .i32)) A8 C9 l7 :: Ro.sl (Kd.slice (Kd.int .i32)) A8 C9 l7 :: Ro.sl (Kd.slice (Kd.int .i32)) A8 C9 l7 :: rs) := hS.re [] [] rfl (sub_cons 0 rfl sub_self)
                    obtain ⟨t9481, t9482, hc9483, H⟩ := b2_out H
                    refine EL.of (EO.callD 41 [.slice A8 l7.length C9, .int .i64 (l5368.getD x6754.toNat 0), .int .i32 (l9357.getD x9400.toNat 0)] _ 73 (by kernel_rfl) (by kernel_rfl) (by kernel_rfl) (confidantref12_Input.calls hc9483 hS) ?_)
                    rintro v w ⟨rfl, hS⟩
                    refine EL.quick 5 [0, 2, 3, 10, 12, 15, 16, 17, 18, 44, 45, 46, 56, 57, 58] [(0, .slice A8 l7.length C9), (2, .int .i32 a11), (3, .int .u8 a12), (10, .pointer (some ⟨g5361, 0, none⟩)), (12, .int .i64 (l5368.getD x6754.toNat 0)), (15, .int .i32 t9475), (16, .bool (t9476)), (17, .int .i32 t9481), (18, .bool (t9482)), (44, .slice (some ⟨g5367, 0, none⟩) l5368.length 2), (45, .int .i64 (l5368.length : Int)), (46, .int .i64 x6754), (56, .slice (some ⟨g9356, 0, none⟩) l9357.length 2), (57, .int .i64 (l9357.length : Int)), (58, .int .i64 x9400)] (by kernel_rfl) ?_
                    refine EL.done (by kernel_rfl) ?_
                    refine EQ.code ?_
                    obtain ⟨j9488, hj9488, H⟩ := lt_out H
                    refine EW.cut (x := C12.r.r.r.r.r.l.r.l.l.r.r.l.l.r.l.r.l.l.r.r.l.l.r.r.r.l) (y := C12.r.r.r.r.r.l.r.l.l.r.r.l.l.r.l.r.l.l.r.r.l.l.r.r.r.r) (fun a w => ∃ x9487 : Bool, Sat 104 [(0, .slice A8 l7.length C9), (2, .int .i32 a11), (3, .int .u8 a12), (10, .pointer (some ⟨g5361, 0, none⟩)), (12, .int .i64 (l5368.getD x6754.toNat 0)), (44, .slice (some ⟨g5367, 0, none⟩) l5368.length 2), (45, .int .i64 (l5368.length : Int)), (46, .int .i64 x6754), (56, .slice (some ⟨g9356, 0, none⟩) l9357.length 2), (57, .int .i64 (l9357.length : Int)), (58, .int .i64 x9400), (83, .bool (x9487))] a ∧ St B w (Ass.box 67 g5361 [.slice A5362 t5360.length C5363] :: Ass.deep 40 21 (Kd.int .i32) A5362 C5363 t5360 :: Ass.own 21 (Kd.int .i32) (some ⟨g9356, 0, none⟩) 2 l9357 :: Ass.own 3 (Kd.int .i64) (some ⟨g5367, 0, none⟩) 2 l5368 :: os) (Ro.sl (Kd.slice (Kd.int .i32)) A8 C9 l7 :: Ro.sl (Kd.slice (Kd.int .i32)) A8 C9 l7 :: Ro.sl (Kd.slice (Kd.int .i32)) A8 C9 l7 :: rs) ∧ j9488 x9487 = some x5158) (by kernel_rfl) ?_ (fun a w hI => ?_)
                    · refine EW.region (id := 19) (ops := C12.r.r.r.r.r.l.r.l.l.r.r.l.l.r.l.r.l.l.r.r.l.l.r.r.r.l.ops) (by kernel_rfl) ?_
                      refine EL.quick 4 [0, 2, 3, 10, 12, 16, 18, 44, 45, 46, 56, 57, 58, 79] [(0, .slice A8 l7.length C9), (2, .int .i32 a11), (3, .int .u8 a12), (10, .pointer (some ⟨g5361, 0, none⟩)), (12, .int .i64 (l5368.getD x6754.toNat 0)), (16, .bool (t9476)), (18, .bool (t9482)), (44, .slice (some ⟨g5367, 0, none⟩) l5368.length 2), (45, .int .i64 (l5368.length : Int)), (46, .int .i64 x6754), (56, .slice (some ⟨g9356, 0, none⟩) l9357.length 2), (57, .int .i64 (l9357.length : Int)), (58, .int .i64 x9400), (79, .bool (!(decide (t9475 = t9481))))] (by kernel_rfl) ?_
                      by_cases h9489 : t9475 = t9481
                      · rw [if_pos h9489] at H
                        refine EL.keep [0, 2, 3, 10, 12, 16, 18, 44, 45, 46, 56, 57, 58, 79] [(0, .slice A8 l7.length C9), (2, .int .i32 a11), (3, .int .u8 a12), (10, .pointer (some ⟨g5361, 0, none⟩)), (12, .int .i64 (l5368.getD x6754.toNat 0)), (16, .bool (t9476)), (18, .bool (t9482)), (44, .slice (some ⟨g5367, 0, none⟩) l5368.length 2), (45, .int .i64 (l5368.length : Int)), (46, .int .i64 x6754), (56, .slice (some ⟨g9356, 0, none⟩) l9357.length 2), (57, .int .i64 (l9357.length : Int)), (58, .int .i64 x9400), (79, .bool (!(decide (t9475 = t9481))))] (by kernel_rfl) ?_
                        refine EL.as' [(0, .slice A8 l7.length C9), (2, .int .i32 a11), (3, .int .u8 a12), (10, .pointer (some ⟨g5361, 0, none⟩)), (12, .int .i64 (l5368.getD x6754.toNat 0)), (16, .bool (t9476)), (18, .bool (t9482)), (44, .slice (some ⟨g5367, 0, none⟩) l5368.length 2), (45, .int .i64 (l5368.length : Int)), (46, .int .i64 x6754), (56, .slice (some ⟨g9356, 0, none⟩) l9357.length 2), (57, .int .i64 (l9357.length : Int)), (58, .int .i64 x9400), (79, .bool (false))] (by simp only [dec_t h9489, Bool.not_true, Bool.not_false]) ?_
                        refine EL.quick 4 [0, 2, 3, 10, 12, 44, 45, 46, 56, 57, 58, 80, 81, 82, 83] [(0, .slice A8 l7.length C9), (2, .int .i32 a11), (3, .int .u8 a12), (10, .pointer (some ⟨g5361, 0, none⟩)), (12, .int .i64 (l5368.getD x6754.toNat 0)), (44, .slice (some ⟨g5367, 0, none⟩) l5368.length 2), (45, .int .i64 (l5368.length : Int)), (46, .int .i64 x6754), (56, .slice (some ⟨g9356, 0, none⟩) l9357.length 2), (57, .int .i64 (l9357.length : Int)), (58, .int .i64 x9400), (80, .bool (t9476)), (81, .bool (t9482)), (82, .bool (!((t9476 == t9482)))), (83, .bool (!((t9476 == t9482))))] (by kernel_rfl) ?_
                        refine EL.done (by kernel_rfl) ?_
                        refine EQ.to ?_
                        refine EQ.keep [0, 2, 3, 10, 12, 44, 45, 46, 56, 57, 58, 83] [(0, .slice A8 l7.length C9), (2, .int .i32 a11), (3, .int .u8 a12), (10, .pointer (some ⟨g5361, 0, none⟩)), (12, .int .i64 (l5368.getD x6754.toNat 0)), (44, .slice (some ⟨g5367, 0, none⟩) l5368.length 2), (45, .int .i64 (l5368.length : Int)), (46, .int .i64 x6754), (56, .slice (some ⟨g9356, 0, none⟩) l9357.length 2), (57, .int .i64 (l9357.length : Int)), (58, .int .i64 x9400), (83, .bool (!((t9476 == t9482))))] (by kernel_rfl) ?_
                        exact fun a ha => ⟨!((t9476 == t9482)), ha, (hS.re [3, 3, 3, 3] [] rfl (sub_cons 0 rfl (sub_cons 0 rfl (sub_cons 0 rfl (sub_tail (sub_tail (sub_tail (sub_self)))))))), H⟩
                      · rw [if_neg h9489] at H
                        refine EL.keep [0, 2, 3, 10, 12, 16, 18, 44, 45, 46, 56, 57, 58, 79] [(0, .slice A8 l7.length C9), (2, .int .i32 a11), (3, .int .u8 a12), (10, .pointer (some ⟨g5361, 0, none⟩)), (12, .int .i64 (l5368.getD x6754.toNat 0)), (16, .bool (t9476)), (18, .bool (t9482)), (44, .slice (some ⟨g5367, 0, none⟩) l5368.length 2), (45, .int .i64 (l5368.length : Int)), (46, .int .i64 x6754), (56, .slice (some ⟨g9356, 0, none⟩) l9357.length 2), (57, .int .i64 (l9357.length : Int)), (58, .int .i64 x9400), (79, .bool (!(decide (t9475 = t9481))))] (by kernel_rfl) ?_
                        refine EL.as' [(0, .slice A8 l7.length C9), (2, .int .i32 a11), (3, .int .u8 a12), (10, .pointer (some ⟨g5361, 0, none⟩)), (12, .int .i64 (l5368.getD x6754.toNat 0)), (16, .bool (t9476)), (18, .bool (t9482)), (44, .slice (some ⟨g5367, 0, none⟩) l5368.length 2), (45, .int .i64 (l5368.length : Int)), (46, .int .i64 x6754), (56, .slice (some ⟨g9356, 0, none⟩) l9357.length 2), (57, .int .i64 (l9357.length : Int)), (58, .int .i64 x9400), (79, .bool (true))] (by simp only [dec_f h9489, Bool.not_true, Bool.not_false]) ?_
                        refine EL.quick 4 [0, 2, 3, 10, 12, 44, 45, 46, 56, 57, 58, 83] [(0, .slice A8 l7.length C9), (2, .int .i32 a11), (3, .int .u8 a12), (10, .pointer (some ⟨g5361, 0, none⟩)), (12, .int .i64 (l5368.getD x6754.toNat 0)), (44, .slice (some ⟨g5367, 0, none⟩) l5368.length 2), (45, .int .i64 (l5368.length : Int)), (46, .int .i64 x6754), (56, .slice (some ⟨g9356, 0, none⟩) l9357.length 2), (57, .int .i64 (l9357.length : Int)), (58, .int .i64 x9400), (83, .bool (true))] (by kernel_rfl) ?_
                        refine EL.done (by kernel_rfl) ?_
                        refine EQ.to ?_
                        refine EQ.keep [0, 2, 3, 10, 12, 44, 45, 46, 56, 57, 58, 83] [(0, .slice A8 l7.length C9), (2, .int .i32 a11), (3, .int .u8 a12), (10, .pointer (some ⟨g5361, 0, none⟩)), (12, .int .i64 (l5368.getD x6754.toNat 0)), (44, .slice (some ⟨g5367, 0, none⟩) l5368.length 2), (45, .int .i64 (l5368.length : Int)), (46, .int .i64 x6754), (56, .slice (some ⟨g9356, 0, none⟩) l9357.length 2), (57, .int .i64 (l9357.length : Int)), (58, .int .i64 x9400), (83, .bool (true))] (by kernel_rfl) ?_
                        exact fun a ha => ⟨true, ha, (hS.re [3, 3, 3, 3] [] rfl (sub_cons 0 rfl (sub_cons 0 rfl (sub_cons 0 rfl (sub_tail (sub_tail (sub_tail (sub_self)))))))), H⟩
                    · obtain ⟨x9487, ha, hS, H⟩ := hI
                      rw [hj9488] at H
                      (try dsimp only at H)
                      refine EW.at ?_ a ha
                      clear ha a
                      refine EW.condP' (o := (.tmp 83)) (x := C12.r.r.r.r.r.l.r.l.l.r.r.l.l.r.l.r.l.l.r.r.l.l.r.r.r.r.l) (y := C12.r.r.r.r.r.l.r.l.l.r.r.l.l.r.l.r.l.l.r.r.l.l.r.r.r.r.r) (x9487) (by kernel_rfl) (by kernel_rfl) (fun h9490 => ?_) (fun h9490 => ?_)
                      · rw [if_pos h9490] at H
                        refine EW.seq (x := C12.r.r.r.r.r.l.r.l.l.r.r.l.l.r.l.r.l.l.r.r.l.l.r.r.r.r.l.l) (y := C12.r.r.r.r.r.l.r.l.l.r.r.l.l.r.l.r.l.l.r.r.l.l.r.r.r.r.l.r) (by kernel_rfl) ?_
                        refine EW.region (id := 20) (ops := C12.r.r.r.r.r.l.r.l.l.r.r.l.l.r.l.r.l.l.r.r.l.l.r.r.r.r.l.l.ops) (by kernel_rfl) ?_
                        refine EL.quick 1 [8] [(8, .bool (false))] (by kernel_rfl) ?_
                        refine EL.done (by kernel_rfl) ?_
                        refine EQ.code ?_
                        refine EW.ret (by kernel_rfl) ?_
                        refine EQ.ret ?_
                        refine EQ.ret ?_
                        refine EQ.ret ?_
                        refine EQ.ret ?_
                        refine EQ.ret ?_
                        refine EQ.ret ?_
                        refine EQ.ret ?_
                        refine EQ.ret ?_
                        refine EQ.ret ?_
                        refine EQ.ret ?_
                        obtain rfl := Option.some.inj H
                        exact EQ.leave (.bool (false)) (by kernel_rfl) ⟨_, rfl, rfl, (hS.re [] [0, 0, 0, 0] rfl (sub_tail (sub_tail (sub_self))))⟩
                      · rw [if_neg h9490] at H
                        refine EW.skip (by kernel_rfl) ?_
                        refine EQ.pop ?_
                        refine EQ.code ?_
                        refine EW.region (id := 21) (ops := C12.r.r.r.r.r.l.r.l.l.r.r.l.l.r.l.r.l.l.r.r.r.ops) (by kernel_rfl) ?_
                        refine EL.quick 2 [0, 2, 3, 10, 12, 44, 45, 46, 56, 57, 58] [(0, .slice A8 l7.length C9), (2, .int .i32 a11), (3, .int .u8 a12), (10, .pointer (some ⟨g5361, 0, none⟩)), (12, .int .i64 (l5368.getD x6754.toNat 0)), (44, .slice (some ⟨g5367, 0, none⟩) l5368.length 2), (45, .int .i64 (l5368.length : Int)), (46, .int .i64 x6754), (56, .slice (some ⟨g9356, 0, none⟩) l9357.length 2), (57, .int .i64 (l9357.length : Int)), (58, .int .i64 (IntKind.i64.wrap (x9400 + 1)))] (by kernel_rfl) ?_
                        refine EL.done (by kernel_rfl) ?_
                        refine EQ.to ?_
                        refine EQ.keep [0, 2, 3, 10, 12, 44, 45, 46, 56, 57, 58] [(0, .slice A8 l7.length C9), (2, .int .i32 a11), (3, .int .u8 a12), (10, .pointer (some ⟨g5361, 0, none⟩)), (12, .int .i64 (l5368.getD x6754.toNat 0)), (44, .slice (some ⟨g5367, 0, none⟩) l5368.length 2), (45, .int .i64 (l5368.length : Int)), (46, .int .i64 x6754), (56, .slice (some ⟨g9356, 0, none⟩) l9357.length 2), (57, .int .i64 (l9357.length : Int)), (58, .int .i64 (IntKind.i64.wrap (x9400 + 1)))] (by kernel_rfl) ?_
                        exact fun a ha => ⟨n, Nat.lt_succ_self n, IntKind.i64.wrap (x9400 + 1), ha, (hS.re [1, 1, 3, 3] [] rfl (sub_cons 0 rfl (sub_cons 0 rfl (sub_tail (sub_tail (sub_tail (sub_self))))))), H⟩
                  · rw [if_neg h9448] at H
                    refine EW.exit (id := 4) (by kernel_rfl) ?_
                    refine EQ.exitCode ?_
                    refine EQ.exitTo ?_
                    refine EQ.exitHere ?_
                    refine EQ.to ?_
                    refine EQ.keep [0, 2, 3, 10, 12, 44, 45, 46] [(0, .slice A8 l7.length C9), (2, .int .i32 a11), (3, .int .u8 a12), (10, .pointer (some ⟨g5361, 0, none⟩)), (12, .int .i64 (l5368.getD x6754.toNat 0)), (44, .slice (some ⟨g5367, 0, none⟩) l5368.length 2), (45, .int .i64 (l5368.length : Int)), (46, .int .i64 x6754)] (by kernel_rfl) ?_
                    exact fun a ha => ⟨l9357, (some ⟨g9356, 0, none⟩), 2, ha, (hS.re [3, 3, 3, 3] [] rfl (sub_cons 0 rfl (sub_cons 0 rfl (sub_tail (sub_tail (sub_self)))))), H⟩
              · obtain ⟨x9350, A9351, C9352, ha, hS, H⟩ := hI
                rw [hj9353] at H
                (try dsimp only at H)
                refine EW.at ?_ a ha
                clear ha a
                refine EW.seq (x := C12.r.r.r.r.r.l.r.l.l.r.r.l.l.r.r.l) (y := C12.r.r.r.r.r.l.r.l.l.r.r.l.l.r.r.r) (by kernel_rfl) ?_
                refine EW.region (id := 22) (ops := C12.r.r.r.r.r.l.r.l.l.r.r.l.l.r.r.l.ops) (by kernel_rfl) ?_
                refine EL.quick 1 [0, 2, 3, 10, 12, 19, 44, 45, 46] [(0, .slice A8 l7.length C9), (2, .int .i32 a11), (3, .int .u8 a12), (10, .pointer (some ⟨g5361, 0, none⟩)), (12, .int .i64 (l5368.getD x6754.toNat 0)), (19, .int .i64 0), (44, .slice (some ⟨g5367, 0, none⟩) l5368.length 2), (45, .int .i64 (l5368.length : Int)), (46, .int .i64 x6754)] (by kernel_rfl) ?_
                refine EL.done (by kernel_rfl) ?_
                refine EQ.code ?_
                obtain ⟨j9517, hj9517, H⟩ := lt_out H
                refine EW.cut (x := C12.r.r.r.r.r.l.r.l.l.r.r.l.l.r.r.r.l) (y := C12.r.r.r.r.r.l.r.l.l.r.r.l.l.r.r.r.r) (fun a w => ∃ x9516 : Int, Sat 104 [(0, .slice A8 l7.length C9), (2, .int .i32 a11), (3, .int .u8 a12), (10, .pointer (some ⟨g5361, 0, none⟩)), (12, .int .i64 (l5368.getD x6754.toNat 0)), (19, .int .i64 x9516), (44, .slice (some ⟨g5367, 0, none⟩) l5368.length 2), (45, .int .i64 (l5368.length : Int)), (46, .int .i64 x6754)] a ∧ St B w (Ass.own 21 (Kd.int .i32) A9351 C9352 x9350 :: Ass.own 3 (Kd.int .i64) (some ⟨g5367, 0, none⟩) 2 l5368 :: Ass.box 67 g5361 [.slice A5362 t5360.length C5363] :: Ass.deep 40 21 (Kd.int .i32) A5362 C5363 t5360 :: os) (Ro.sl (Kd.slice (Kd.int .i32)) A8 C9 l7 :: Ro.sl (Kd.slice (Kd.int .i32)) A8 C9 l7 :: rs) ∧ j9517 x9516 = some x5158) (by kernel_rfl) ?_ (fun a w hI => ?_)
                · obtain ⟨j9522, hj9522, H⟩ := lt_out H
                  refine EW.cut (x := C12.r.r.r.r.r.l.r.l.l.r.r.l.l.r.r.r.l.l) (y := C12.r.r.r.r.r.l.r.l.l.r.r.l.l.r.r.r.l.r) (fun a w => ∃ x9521 : Bool, Sat 104 [(0, .slice A8 l7.length C9), (2, .int .i32 a11), (3, .int .u8 a12), (10, .pointer (some ⟨g5361, 0, none⟩)), (12, .int .i64 (l5368.getD x6754.toNat 0)), (19, .int .i64 0), (44, .slice (some ⟨g5367, 0, none⟩) l5368.length 2), (45, .int .i64 (l5368.length : Int)), (46, .int .i64 x6754), (92, .bool (x9521))] a ∧ St B w (Ass.own 21 (Kd.int .i32) A9351 C9352 x9350 :: Ass.own 3 (Kd.int .i64) (some ⟨g5367, 0, none⟩) 2 l5368 :: Ass.box 67 g5361 [.slice A5362 t5360.length C5363] :: Ass.deep 40 21 (Kd.int .i32) A5362 C5363 t5360 :: os) (Ro.sl (Kd.slice (Kd.int .i32)) A8 C9 l7 :: Ro.sl (Kd.slice (Kd.int .i32)) A8 C9 l7 :: rs) ∧ j9522 x9521 = some x5158) (by kernel_rfl) ?_ (fun a w hI => ?_)
                  · refine EW.region (id := 23) (ops := C12.r.r.r.r.r.l.r.l.l.r.r.l.l.r.r.r.l.l.ops) (by kernel_rfl) ?_
                    refine EL.quick 3 [0, 2, 3, 10, 12, 19, 44, 45, 46, 87] [(0, .slice A8 l7.length C9), (2, .int .i32 a11), (3, .int .u8 a12), (10, .pointer (some ⟨g5361, 0, none⟩)), (12, .int .i64 (l5368.getD x6754.toNat 0)), (19, .int .i64 0), (44, .slice (some ⟨g5367, 0, none⟩) l5368.length 2), (45, .int .i64 (l5368.length : Int)), (46, .int .i64 x6754), (87, .bool (decide ((l5368.getD x6754.toNat 0) ≥ 0)))] (by kernel_rfl) ?_
                    by_cases h9523 : (l5368.getD x6754.toNat 0) ≥ 0
                    · rw [if_pos h9523] at H
                      refine EL.keep [0, 2, 3, 10, 12, 19, 44, 45, 46, 87] [(0, .slice A8 l7.length C9), (2, .int .i32 a11), (3, .int .u8 a12), (10, .pointer (some ⟨g5361, 0, none⟩)), (12, .int .i64 (l5368.getD x6754.toNat 0)), (19, .int .i64 0), (44, .slice (some ⟨g5367, 0, none⟩) l5368.length 2), (45, .int .i64 (l5368.length : Int)), (46, .int .i64 x6754), (87, .bool (decide ((l5368.getD x6754.toNat 0) ≥ 0)))] (by kernel_rfl) ?_
                      refine EL.as' [(0, .slice A8 l7.length C9), (2, .int .i32 a11), (3, .int .u8 a12), (10, .pointer (some ⟨g5361, 0, none⟩)), (12, .int .i64 (l5368.getD x6754.toNat 0)), (19, .int .i64 0), (44, .slice (some ⟨g5367, 0, none⟩) l5368.length 2), (45, .int .i64 (l5368.length : Int)), (46, .int .i64 x6754), (87, .bool (true))] (by simp only [dec_t h9523, Bool.not_true, Bool.not_false]) ?_
                      refine EL.quick 5 [0, 2, 3, 10, 12, 19, 44, 45, 46, 88, 89, 90, 91, 92] [(0, .slice A8 l7.length C9), (2, .int .i32 a11), (3, .int .u8 a12), (10, .pointer (some ⟨g5361, 0, none⟩)), (12, .int .i64 (l5368.getD x6754.toNat 0)), (19, .int .i64 0), (44, .slice (some ⟨g5367, 0, none⟩) l5368.length 2), (45, .int .i64 (l5368.length : Int)), (46, .int .i64 x6754), (88, .int .i64 (l5368.getD x6754.toNat 0)), (89, .slice A8 l7.length C9), (90, .int .i64 (l7.length : Int)), (91, .bool (decide ((l5368.getD x6754.toNat 0) < (l7.length : Int)))), (92, .bool (decide ((l5368.getD x6754.toNat 0) < (l7.length : Int))))] (by kernel_rfl) ?_
                      refine EL.done (by kernel_rfl) ?_
                      refine EQ.to ?_
                      refine EQ.keep [0, 2, 3, 10, 12, 19, 44, 45, 46, 92] [(0, .slice A8 l7.length C9), (2, .int .i32 a11), (3, .int .u8 a12), (10, .pointer (some ⟨g5361, 0, none⟩)), (12, .int .i64 (l5368.getD x6754.toNat 0)), (19, .int .i64 0), (44, .slice (some ⟨g5367, 0, none⟩) l5368.length 2), (45, .int .i64 (l5368.length : Int)), (46, .int .i64 x6754), (92, .bool (decide ((l5368.getD x6754.toNat 0) < (l7.length : Int))))] (by kernel_rfl) ?_
                      exact fun a ha => ⟨decide ((l5368.getD x6754.toNat 0) < (l7.length : Int)), ha, (hS.re [3, 3, 3, 3] [] rfl (sub_cons 0 rfl (sub_cons 0 rfl (sub_tail (sub_tail (sub_self)))))), H⟩
                    · rw [if_neg h9523] at H
                      refine EL.keep [0, 2, 3, 10, 12, 19, 44, 45, 46, 87] [(0, .slice A8 l7.length C9), (2, .int .i32 a11), (3, .int .u8 a12), (10, .pointer (some ⟨g5361, 0, none⟩)), (12, .int .i64 (l5368.getD x6754.toNat 0)), (19, .int .i64 0), (44, .slice (some ⟨g5367, 0, none⟩) l5368.length 2), (45, .int .i64 (l5368.length : Int)), (46, .int .i64 x6754), (87, .bool (decide ((l5368.getD x6754.toNat 0) ≥ 0)))] (by kernel_rfl) ?_
                      refine EL.as' [(0, .slice A8 l7.length C9), (2, .int .i32 a11), (3, .int .u8 a12), (10, .pointer (some ⟨g5361, 0, none⟩)), (12, .int .i64 (l5368.getD x6754.toNat 0)), (19, .int .i64 0), (44, .slice (some ⟨g5367, 0, none⟩) l5368.length 2), (45, .int .i64 (l5368.length : Int)), (46, .int .i64 x6754), (87, .bool (false))] (by simp only [dec_f h9523, Bool.not_true, Bool.not_false]) ?_
                      refine EL.quick 5 [0, 2, 3, 10, 12, 19, 44, 45, 46, 92] [(0, .slice A8 l7.length C9), (2, .int .i32 a11), (3, .int .u8 a12), (10, .pointer (some ⟨g5361, 0, none⟩)), (12, .int .i64 (l5368.getD x6754.toNat 0)), (19, .int .i64 0), (44, .slice (some ⟨g5367, 0, none⟩) l5368.length 2), (45, .int .i64 (l5368.length : Int)), (46, .int .i64 x6754), (92, .bool (false))] (by kernel_rfl) ?_
                      refine EL.done (by kernel_rfl) ?_
                      refine EQ.to ?_
                      refine EQ.keep [0, 2, 3, 10, 12, 19, 44, 45, 46, 92] [(0, .slice A8 l7.length C9), (2, .int .i32 a11), (3, .int .u8 a12), (10, .pointer (some ⟨g5361, 0, none⟩)), (12, .int .i64 (l5368.getD x6754.toNat 0)), (19, .int .i64 0), (44, .slice (some ⟨g5367, 0, none⟩) l5368.length 2), (45, .int .i64 (l5368.length : Int)), (46, .int .i64 x6754), (92, .bool (false))] (by kernel_rfl) ?_
                      exact fun a ha => ⟨false, ha, (hS.re [3, 3, 3, 3] [] rfl (sub_cons 0 rfl (sub_cons 0 rfl (sub_tail (sub_tail (sub_self)))))), H⟩
                  · obtain ⟨x9521, ha, hS, H⟩ := hI
                    rw [hj9522] at H
                    (try dsimp only at H)
                    refine EW.at ?_ a ha
                    clear ha a
                    refine EW.condP' (o := (.tmp 92)) (x := C12.r.r.r.r.r.l.r.l.l.r.r.l.l.r.r.r.l.r.l) (y := C12.r.r.r.r.r.l.r.l.l.r.r.l.l.r.r.r.l.r.r) (x9521) (by kernel_rfl) (by kernel_rfl) (fun h9524 => ?_) (fun h9524 => ?_)
                    · rw [if_pos h9524] at H
                      refine EW.region (id := 24) (ops := C12.r.r.r.r.r.l.r.l.l.r.r.l.l.r.r.r.l.r.l.ops) (by kernel_rfl) ?_
                      refine EL.quick 2 [0, 2, 3, 10, 12, 44, 45, 46, 93, 94] [(0, .slice A8 l7.length C9), (2, .int .i32 a11), (3, .int .u8 a12), (10, .pointer (some ⟨g5361, 0, none⟩)), (12, .int .i64 (l5368.getD x6754.toNat 0)), (44, .slice (some ⟨g5367, 0, none⟩) l5368.length 2), (45, .int .i64 (l5368.length : Int)), (46, .int .i64 x6754), (93, .slice A8 l7.length C9), (94, .int .i64 (l5368.getD x6754.toNat 0))] (by kernel_rfl) ?_
                      obtain ⟨h9525, H⟩ := ite_in H
                      obtain ⟨h9526, H⟩ := ite_in H
                      obtain ⟨ad9527, rfl⟩ := St.rd_some hS (Rd.ro 0 rfl) h9525 h9526
                      refine EL.of (EO.Y (YO.idx 51 1 ad9527 l7.length C9 .i64 (l5368.getD x6754.toNat 0) 95 (by kernel_rfl) (by kernel_rfl) (by kernel_rfl) (by kernel_rfl) h9525 h9526) ?_)
                      refine EL.of (EO.loadSl hS (Kd.int .i32) ad9527 C9 l7 (Rd.ro 0 rfl) (l5368.getD x6754.toNat 0) h9525 h9526 40 96 (by kernel_rfl) (by kernel_rfl) (by kernel_rfl) (by kernel_rfl) ?_)
                      intro A9528 C9529 hS
                      refine EL.quick 2 [0, 2, 3, 10, 12, 19, 44, 45, 46] [(0, .slice (some ad9527) l7.length C9), (2, .int .i32 a11), (3, .int .u8 a12), (10, .pointer (some ⟨g5361, 0, none⟩)), (12, .int .i64 (l5368.getD x6754.toNat 0)), (19, .int .i64 ((l7.getD (l5368.getD x6754.toNat 0).toNat []).length : Int)), (44, .slice (some ⟨g5367, 0, none⟩) l5368.length 2), (45, .int .i64 (l5368.length : Int)), (46, .int .i64 x6754)] (by kernel_rfl) ?_
                      refine EL.done (by kernel_rfl) ?_
                      refine EQ.to ?_
                      refine EQ.keep [0, 2, 3, 10, 12, 19, 44, 45, 46] [(0, .slice (some ad9527) l7.length C9), (2, .int .i32 a11), (3, .int .u8 a12), (10, .pointer (some ⟨g5361, 0, none⟩)), (12, .int .i64 (l5368.getD x6754.toNat 0)), (19, .int .i64 ((l7.getD (l5368.getD x6754.toNat 0).toNat []).length : Int)), (44, .slice (some ⟨g5367, 0, none⟩) l5368.length 2), (45, .int .i64 (l5368.length : Int)), (46, .int .i64 x6754)] (by kernel_rfl) ?_
                      exact fun a ha => ⟨((l7.getD (l5368.getD x6754.toNat 0).toNat []).length : Int), ha, (hS.re [3, 3, 3, 3] [] rfl (sub_cons 1 rfl (sub_cons 1 rfl (sub_tail (sub_tail (sub_tail (sub_self))))))), H⟩
                    · rw [if_neg h9524] at H
                      refine EW.skip (by kernel_rfl) ?_
                      refine EQ.to ?_
                      refine EQ.keep [0, 2, 3, 10, 12, 19, 44, 45, 46] [(0, .slice A8 l7.length C9), (2, .int .i32 a11), (3, .int .u8 a12), (10, .pointer (some ⟨g5361, 0, none⟩)), (12, .int .i64 (l5368.getD x6754.toNat 0)), (19, .int .i64 0), (44, .slice (some ⟨g5367, 0, none⟩) l5368.length 2), (45, .int .i64 (l5368.length : Int)), (46, .int .i64 x6754)] (by kernel_rfl) ?_
                      exact fun a ha => ⟨0, ha, (hS.re [3, 3, 3, 3] [] rfl (sub_cons 0 rfl (sub_cons 0 rfl (sub_tail (sub_tail (sub_self)))))), H⟩
                · obtain ⟨x9516, ha, hS, H⟩ := hI
                  rw [hj9517] at H
                  (try dsimp only at H)
                  refine EW.at ?_ a ha
                  clear ha a
                  refine EW.seq (x := C12.r.r.r.r.r.l.r.l.l.r.r.l.l.r.r.r.r.l) (y := C12.r.r.r.r.r.l.r.l.l.r.r.l.l.r.r.r.r.r) (by kernel_rfl) ?_
                  refine EW.region (id := 25) (ops := C12.r.r.r.r.r.l.r.l.l.r.r.l.l.r.r.r.r.l.ops) (by kernel_rfl) ?_
                  refine EL.quick 2 [0, 2, 3, 10, 19, 44, 45, 46, 98, 99] [(0, .slice A8 l7.length C9), (2, .int .i32 a11), (3, .int .u8 a12), (10, .pointer (some ⟨g5361, 0, none⟩)), (19, .int .i64 x9516), (44, .slice (some ⟨g5367, 0, none⟩) l5368.length 2), (45, .int .i64 (l5368.length : Int)), (46, .int .i64 x6754), (98, .pointer (some ⟨g5361, 0, none⟩)), (99, .int .i64 (l5368.getD x6754.toNat 0))] (by kernel_rfl) ?_
                  have hS : St B _ (Ass.box 67 g5361 [.slice A5362 t5360.length C5363] :: Ass.deep 40 21 (Kd.int .i32) A5362 C5363 t5360 :: Ass.own 21 (Kd.int .i32) A9351 C9352 x9350 :: Ass.own 3 (Kd.int .i64) (some ⟨g5367, 0, none⟩) 2 l5368 :: os) (Ro.sl (Kd.slice (Kd.int .i32)) A8 C9 l7 :: Ro.sl (Kd.slice (Kd.int .i32)) A8 C9 l7 :: rs) := hS.re [3, 3] [] rfl sub_self
                  obtain ⟨t9532, hc9533, H⟩ := b1_out H
                  refine EL.of (EO.callD 42 [.pointer (some ⟨g5361, 0, none⟩), .int .i64 (l5368.getD x6754.toNat 0)] _ 100 (by kernel_rfl) (by kernel_rfl) (by kernel_rfl) (input_Inputs_Len.calls hc9533 hS) ?_)
                  rintro v w ⟨rfl, hS⟩
                  refine EL.quick 2 [0, 2, 3, 10, 44, 45, 46, 102] [(0, .slice A8 l7.length C9), (2, .int .i32 a11), (3, .int .u8 a12), (10, .pointer (some ⟨g5361, 0, none⟩)), (44, .slice (some ⟨g5367, 0, none⟩) l5368.length 2), (45, .int .i64 (l5368.length : Int)), (46, .int .i64 x6754), (102, .bool (!(decide (t9532 = x9516))))] (by kernel_rfl) ?_
                  refine EL.done (by kernel_rfl) ?_
                  refine EQ.code ?_
                  refine EW.condQ (b := !(decide (t9532 = x9516))) (o := (.tmp 102)) (x := C12.r.r.r.r.r.l.r.l.l.r.r.l.l.r.r.r.r.r.l) (y := C12.r.r.r.r.r.l.r.l.l.r.r.l.l.r.r.r.r.r.r) (t9532 = x9516) (false) (by kernel_rfl) (by kernel_rfl) ⟨fun h => (by rw [decide_eq_true h] <;> rfl), fun h => (by rw [decide_eq_false h] <;> rfl)⟩ (fun h9534 => ?_) (fun h9534 => ?_)
                  · rw [if_pos h9534] at H
                    refine EW.skip (by kernel_rfl) ?_
                    refine EQ.pop ?_
                    refine EQ.to ?_
                    refine EQ.keep [0, 2, 3, 10, 44, 45, 46] [(0, .slice A8 l7.length C9), (2, .int .i32 a11), (3, .int .u8 a12), (10, .pointer (some ⟨g5361, 0, none⟩)), (44, .slice (some ⟨g5367, 0, none⟩) l5368.length 2), (45, .int .i64 (l5368.length : Int)), (46, .int .i64 x6754)] (by kernel_rfl) ?_
                    exact fun a ha => ⟨x9350, A9351, C9352, ha, (hS.re [3, 3, 3, 3] [] rfl (sub_cons 0 rfl (sub_cons 0 rfl (sub_tail (sub_tail (sub_self)))))), H⟩
                  · rw [if_neg h9534] at H
                    refine EW.seq (x := C12.r.r.r.r.r.l.r.l.l.r.r.l.l.r.r.r.r.r.l.l) (y := C12.r.r.r.r.r.l.r.l.l.r.r.l.l.r.r.r.r.r.l.r) (by kernel_rfl) ?_
                    refine EW.region (id := 26) (ops := C12.r.r.r.r.r.l.r.l.l.r.r.l.l.r.r.r.r.r.l.l.ops) (by kernel_rfl) ?_
                    refine EL.quick 1 [8] [(8, .bool (false))] (by kernel_rfl) ?_
                    refine EL.done (by kernel_rfl) ?_
                    refine EQ.code ?_
                    refine EW.ret (by kernel_rfl) ?_
                    refine EQ.ret ?_
                    refine EQ.ret ?_
                    refine EQ.ret ?_
                    refine EQ.ret ?_
                    refine EQ.ret ?_
                    obtain rfl := Option.some.inj H
                    exact EQ.leave (.bool (false)) (by kernel_rfl) ⟨_, rfl, rfl, (hS.re [] [0, 0, 0, 0] rfl (sub_tail (sub_self)))⟩
            · obtain ⟨x9070, A9071, C9072, ha, hS, H⟩ := hI
              rw [hj9073] at H
              (try dsimp only at H)
              refine EW.at ?_ a ha
              clear ha a
              refine EW.region (id := 27) (ops := C12.r.r.r.r.r.l.r.l.l.r.r.r.ops) (by kernel_rfl) ?_
              refine EL.quick 2 [0, 2, 3, 10, 44, 45, 46] [(0, .slice A8 l7.length C9), (2, .int .i32 a11), (3, .int .u8 a12), (10, .pointer (some ⟨g5361, 0, none⟩)), (44, .slice (some ⟨g5367, 0, none⟩) l5368.length 2), (45, .int .i64 (l5368.length : Int)), (46, .int .i64 (IntKind.i64.wrap (x6754 + 1)))] (by kernel_rfl) ?_
              refine EL.done (by kernel_rfl) ?_
              refine EQ.to ?_
              refine EQ.keep [0, 2, 3, 10, 44, 45, 46] [(0, .slice A8 l7.length C9), (2, .int .i32 a11), (3, .int .u8 a12), (10, .pointer (some ⟨g5361, 0, none⟩)), (44, .slice (some ⟨g5367, 0, none⟩) l5368.length 2), (45, .int .i64 (l5368.length : Int)), (46, .int .i64 (IntKind.i64.wrap (x6754 + 1)))] (by kernel_rfl) ?_
              exact fun a ha => ⟨n, Nat.lt_succ_self n, IntKind.i64.wrap (x6754 + 1), ha, (hS.re [1, 1, 3] [3] rfl (sub_cons 0 rfl (sub_cons 0 rfl (sub_tail (sub_tail (sub_self)))))), H⟩
          · rw [if_neg h8147] at H
            refine EW.exit (id := 2) (by kernel_rfl) ?_
            refine EQ.exitCode ?_
            refine EQ.exitTo ?_
            refine EQ.exitHere ?_
            refine EQ.code ?_
            refine EW.seq (x := C12.r.r.r.r.r.r.l) (y := C12.r.r.r.r.r.r.r) (by kernel_rfl) ?_
            refine EW.region (id := 28) (ops := C12.r.r.r.r.r.r.l.ops) (by kernel_rfl) ?_
            refine EL.quick 1 [8] [(8, .bool (true))] (by kernel_rfl) ?_
            refine EL.done (by kernel_rfl) ?_
            refine EQ.code ?_
            refine EW.ret (by kernel_rfl) ?_
            obtain rfl := Option.some.inj H
            exact EQ.leave (.bool (true)) (by kernel_rfl) ⟨_, rfl, rfl, (hS.re [] [0, 0, 0] rfl (sub_tail (sub_self)))⟩
  · rw [if_neg h5168] at H
    refine EW.seq (x := C12.r.l.r.l.l) (y := C12.r.l.r.l.r) (by kernel_rfl) ?_
    refine EW.region (id := 2) (ops := C12.r.l.r.l.l.ops) (by kernel_rfl) ?_
    refine EL.quick 1 [8] [(8, .bool (false))] (by kernel_rfl) ?_
    refine EL.done (by kernel_rfl) ?_
    refine EQ.code ?_
    refine EW.ret (by kernel_rfl) ?_
    refine EQ.ret ?_
    obtain rfl := Option.some.inj H
    exact EQ.leave (.bool (false)) (by kernel_rfl) ⟨_, rfl, rfl, (hS.re [] [] rfl (sub_self))⟩

def confidantlaw14_InputTells.Pure : Prop := ∀ (l7 : List (List Int)) (a10 : Int) (a11 : Int) (a12 : Int), l7.length * 24 ≤ 140737488351232 → (∀ x ∈ l7, x.length * 4 ≤ 140737488351232 ∧ (∀ y ∈ x, (Lit.int .i32 y).wf = true)) → (Lit.int .i64 a10).wf = true → (Lit.int .i32 a11).wf = true → (Lit.int .u8 a12).wf = true → ∃ K, confidantlaw14_InputTells.f K l7 a10 a11 a12 = some true

noncomputable def C13 : Code := bodyOf Try.f13

/-! ### confidant/confidantlaw14.InputKeeps: function 13 -/
def confidantlaw14_InputKeeps.l1 (K : Nat) (l67 : List Int) (t685 : List (List Int)) (j1061 : Option Bool) : Nat → Int → Option Bool
  | 0, _ => none
  | n + 1, x1098 => if x1098 < (l67.length : Int) then (b2 (input_Inputs_Get.f K t685 0 (IntKind.i32.wrap x1098)) fun (t1165 : Int) (t1166 : Bool) => (lt (fun (x1175 : Bool) => (if x1175 = true then (some false) else (confidantlaw14_InputKeeps.l1 K l67 t685 j1061 n (IntKind.i64.wrap (x1098 + 1))))) fun j1176 => (if t1166 = true then (if 0 ≤ x1098 then (j1176 (!(decide (t1165 = (l67.getD x1098.toNat 0))))) else none) else (j1176 true)))) else (j1061)
def confidantlaw14_InputKeeps.l0 (K : Nat) (j780 : (List Int) → Option Bool) : Nat → (List Int) → Int → Option Bool
  | 0, _, _ => none
  | n + 1, x795, x798 => if x798 < (x795.length : Int) then (if 0 ≤ x798 then (lt (x795.set x798.toNat (IntKind.i32.wrap ((x795.getD x798.toNat 0) + 1))) fun l822 => (confidantlaw14_InputKeeps.l0 K j780 n l822 (IntKind.i64.wrap (x798 + 1)))) else none) else (j780 x795)
def confidantlaw14_InputKeeps.f (K : Nat) (l67 : List Int) (l70 : List Int) (a73 : Int) : Option Bool := b1 (confidantlaw14_known.f K) fun (t645 : Bool) => (if t645 = true then (lt (fun (x658 : Bool) => (if x658 = true then (some true) else (if (([] : List Int).length + l67.length) * 4 ≤ 140737488355328 then (lt (([] : List Int) ++ l67) fun l671 => (if (([] : List Int).length + l70.length) * 4 ≤ 140737488355328 then (lt (([] : List Int) ++ l70) fun l675 => (b1 (input_New.f K ([l671, l675] : List (List Int))) fun (t685 : List (List Int)) => (lt (fun (x777 : List Int) => (lt (lt ([(l67.length : Int), (l70.length : Int)] : List Int) fun l1189 => (if 0 ≤ (Int.tmod a73 2) then (if (Int.tmod a73 2) < (l1189.length : Int) then (b2 (input_Inputs_Get.f K t685 (IntKind.i64.wrap (Int.tmod a73 2)) (IntKind.i32.wrap (l1189.getD (Int.tmod a73 2).toNat 0))) fun (t1192 : Int) (t1193 : Bool) => (if t1193 = true then (some false) else (b1 (input_Inputs_Len.f K t685 0) fun (t1196 : Int) => (if t1196 = (l67.length : Int) then (b1 (input_Inputs_Len.f K t685 1) fun (t1199 : Int) => (some (decide (t1199 = (l70.length : Int))))) else (some false))))) else none) else none)) fun j1061 => (confidantlaw14_InputKeeps.l1 K l67 t685 j1061 K 0))) fun j780 => (confidantlaw14_InputKeeps.l0 K j780 K l671 0)))) else none)) else none))) fun j659 => (if (l67.length : Int) > 30 then (j659 true) else (j659 (decide ((l70.length : Int) > 30))))) else (some false))
set_option maxRecDepth 100000 in
theorem confidantlaw14_InputKeeps.calls {K : Nat} {l67 : List Int} {l70 : List Int} {a73 : Int} {A68 : Option Addr} {C69 : Nat} {A71 : Option Addr} {C72 : Nat} {x637 : Bool} {B w : World} {os : List Ass} {rs : List Ro} (H : confidantlaw14_InputKeeps.f K l67 l70 a73 = some x637) (hS : St B w (os) (Ro.sl (Kd.int .i32) A68 C69 l67 :: Ro.sl (Kd.int .i32) A71 C72 l70 :: rs)) :
    Calls Try.prog 13 [.slice A68 l67.length C69, .slice A71 l70.length C72, .int .u8 a73].toArray w (fun en w' => ∃ v, en = .returned v ∧ v = .bool (x637) ∧ St B w' (os) (Ro.sl (Kd.int .i32) A68 C69 l67 :: Ro.sl (Kd.int .i32) A71 C72 l70 :: rs)) := by
  unfold confidantlaw14_InputKeeps.f at H
  refine calls_of_EW (args := [.slice A68 l67.length C69, .slice A71 l70.length C72, .int .u8 a73]) (c := C13) 103 Try.func13 (by kernel_rfl) (by kernel_rfl) (by kernel_rfl) ?_
  refine EW.seq (x := C13.l) (y := C13.r) (by kernel_rfl) ?_
  refine EW.region (id := 0) (ops := C13.l.ops) (by kernel_rfl) ?_
  refine EL.quick 1 [0, 1, 2] [(0, .slice A68 l67.length C69), (1, .slice A71 l70.length C72), (2, .int .u8 a73)] (by kernel_rfl) ?_
  refine EL.done (by kernel_rfl) ?_
  refine EQ.code ?_
  refine EW.seq (x := C13.r.l) (y := C13.r.r) (by kernel_rfl) ?_
  refine EW.seq (x := C13.r.l.l) (y := C13.r.l.r) (by kernel_rfl) ?_
  refine EW.region (id := 1) (ops := C13.r.l.l.ops) (by kernel_rfl) ?_
  obtain ⟨t645, hc646, H⟩ := b1_out H
  refine EL.of (EO.callD 38 [] _ 16 (by kernel_rfl) (by kernel_rfl) (by kernel_rfl) (confidantlaw14_known.calls hc646 hS) ?_)
  rintro v w ⟨rfl, hS⟩
  refine EL.quick 1 [0, 1, 2, 17] [(0, .slice A68 l67.length C69), (1, .slice A71 l70.length C72), (2, .int .u8 a73), (17, .bool (!(t645)))] (by kernel_rfl) ?_
  refine EL.done (by kernel_rfl) ?_
  refine EQ.code ?_
  refine EW.condQ (b := !(t645)) (o := (.tmp 17)) (x := C13.r.l.r.l) (y := C13.r.l.r.r) (t645 = true) (false) (by kernel_rfl) (by kernel_rfl) ⟨fun h => (by rw [h] <;> rfl), fun h => (by rw [Bool.eq_false_iff.2 h] <;> rfl)⟩ (fun h647 => ?_) (fun h647 => ?_)
  · rw [if_pos h647] at H
    refine EW.skip (by kernel_rfl) ?_
    refine EQ.code ?_
    refine EW.seq (x := C13.r.r.l) (y := C13.r.r.r) (by kernel_rfl) ?_
    obtain ⟨j659, hj659, H⟩ := lt_out H
    refine EW.cut (x := C13.r.r.l.l) (y := C13.r.r.l.r) (fun a w => ∃ x658 : Bool, Sat 103 [(0, .slice A68 l67.length C69), (1, .slice A71 l70.length C72), (2, .int .u8 a73), (25, .bool (x658))] a ∧ St B w (os) (Ro.sl (Kd.int .i32) A68 C69 l67 :: Ro.sl (Kd.int .i32) A71 C72 l70 :: rs) ∧ j659 x658 = some x637) (by kernel_rfl) ?_ (fun a w hI => ?_)
    · refine EW.region (id := 3) (ops := C13.r.r.l.l.ops) (by kernel_rfl) ?_
      refine EL.quick 4 [0, 1, 2, 21] [(0, .slice A68 l67.length C69), (1, .slice A71 l70.length C72), (2, .int .u8 a73), (21, .bool (decide ((l67.length : Int) > 30)))] (by kernel_rfl) ?_
      by_cases h660 : (l67.length : Int) > 30
      · rw [if_pos h660] at H
        refine EL.keep [0, 1, 2, 21] [(0, .slice A68 l67.length C69), (1, .slice A71 l70.length C72), (2, .int .u8 a73), (21, .bool (decide ((l67.length : Int) > 30)))] (by kernel_rfl) ?_
        refine EL.as' [(0, .slice A68 l67.length C69), (1, .slice A71 l70.length C72), (2, .int .u8 a73), (21, .bool (true))] (by simp only [dec_t h660, Bool.not_true, Bool.not_false]) ?_
        refine EL.quick 4 [0, 1, 2, 25] [(0, .slice A68 l67.length C69), (1, .slice A71 l70.length C72), (2, .int .u8 a73), (25, .bool (true))] (by kernel_rfl) ?_
        refine EL.done (by kernel_rfl) ?_
        refine EQ.to ?_
        refine EQ.keep [0, 1, 2, 25] [(0, .slice A68 l67.length C69), (1, .slice A71 l70.length C72), (2, .int .u8 a73), (25, .bool (true))] (by kernel_rfl) ?_
        exact fun a ha => ⟨true, ha, (hS.re [] [] rfl (sub_cons 0 rfl (sub_cons 1 rfl (sub_tail (sub_tail (sub_self)))))), H⟩
      · rw [if_neg h660] at H
        refine EL.keep [0, 1, 2, 21] [(0, .slice A68 l67.length C69), (1, .slice A71 l70.length C72), (2, .int .u8 a73), (21, .bool (decide ((l67.length : Int) > 30)))] (by kernel_rfl) ?_
        refine EL.as' [(0, .slice A68 l67.length C69), (1, .slice A71 l70.length C72), (2, .int .u8 a73), (21, .bool (false))] (by simp only [dec_f h660, Bool.not_true, Bool.not_false]) ?_
        refine EL.quick 4 [0, 1, 2, 25] [(0, .slice A68 l67.length C69), (1, .slice A71 l70.length C72), (2, .int .u8 a73), (25, .bool (decide ((l70.length : Int) > 30)))] (by kernel_rfl) ?_
        refine EL.done (by kernel_rfl) ?_
        refine EQ.to ?_
        refine EQ.keep [0, 1, 2, 25] [(0, .slice A68 l67.length C69), (1, .slice A71 l70.length C72), (2, .int .u8 a73), (25, .bool (decide ((l70.length : Int) > 30)))] (by kernel_rfl) ?_
        exact fun a ha => ⟨decide ((l70.length : Int) > 30), ha, (hS.re [] [] rfl (sub_cons 0 rfl (sub_cons 1 rfl (sub_tail (sub_tail (sub_self)))))), H⟩
    · obtain ⟨x658, ha, hS, H⟩ := hI
      rw [hj659] at H
      (try dsimp only at H)
      refine EW.at ?_ a ha
      clear ha a
      refine EW.condP' (o := (.tmp 25)) (x := C13.r.r.l.r.l) (y := C13.r.r.l.r.r) (x658) (by kernel_rfl) (by kernel_rfl) (fun h661 => ?_) (fun h661 => ?_)
      · rw [if_pos h661] at H
        refine EW.seq (x := C13.r.r.l.r.l.l) (y := C13.r.r.l.r.l.r) (by kernel_rfl) ?_
        refine EW.region (id := 4) (ops := C13.r.r.l.r.l.l.ops) (by kernel_rfl) ?_
        refine EL.quick 1 [6] [(6, .bool (true))] (by kernel_rfl) ?_
        refine EL.done (by kernel_rfl) ?_
        refine EQ.code ?_
        refine EW.ret (by kernel_rfl) ?_
        refine EQ.ret ?_
        obtain rfl := Option.some.inj H
        exact EQ.leave (.bool (true)) (by kernel_rfl) ⟨_, rfl, rfl, (hS.re [] [] rfl (sub_self))⟩
      · rw [if_neg h661] at H
        refine EW.skip (by kernel_rfl) ?_
        refine EQ.code ?_
        refine EW.seq (x := C13.r.r.r.l) (y := C13.r.r.r.r) (by kernel_rfl) ?_
        refine EW.region (id := 5) (ops := C13.r.r.r.l.ops) (by kernel_rfl) ?_
        refine EL.quick 1 [0, 1, 2, 26] [(0, .slice A68 l67.length C69), (1, .slice A71 l70.length C72), (2, .int .u8 a73), (26, .slice A68 l67.length C69)] (by kernel_rfl) ?_
        have hS := St.nilO hS 21 (Kd.int .i32)
        obtain ⟨h670, H⟩ := ite_in H
        obtain ⟨l671, hl671, H⟩ := lt_out H
        refine EL.of (EO.append hS 40 40 21 4 0 (Kd.int .i32) none 0 ([] : List Int) rfl A68 C69 l67 (Rd.ro 0 rfl) l671 hl671 (fun A672 C673 => Ass.own 21 (Kd.int .i32) A672 C673 l671 :: os) 27 (by kernel_rfl) (by kernel_rfl) (by kernel_rfl) (by kernel_rfl) h670 (fun _ _ => rfl) ?_)
        intro A672 C673 w hS
        refine EL.quick 1 [0, 1, 2, 27, 28] [(0, .slice A68 l67.length C69), (1, .slice A71 l70.length C72), (2, .int .u8 a73), (27, .slice A672 l671.length C673), (28, .slice A71 l70.length C72)] (by kernel_rfl) ?_
        have hS := St.nilO hS 21 (Kd.int .i32)
        obtain ⟨h674, H⟩ := ite_in H
        obtain ⟨l675, hl675, H⟩ := lt_out H
        refine EL.of (EO.append hS 40 40 21 4 0 (Kd.int .i32) none 0 ([] : List Int) rfl A71 C72 l70 (Rd.ro 1 rfl) l675 hl675 (fun A676 C677 => Ass.own 21 (Kd.int .i32) A676 C677 l675 :: Ass.own 21 (Kd.int .i32) A672 C673 l671 :: os) 29 (by kernel_rfl) (by kernel_rfl) (by kernel_rfl) (by kernel_rfl) h674 (fun _ _ => rfl) ?_)
        intro A676 C677 w hS
        refine EL.quick 2 [0, 1, 2, 7, 8] [(0, .slice A68 l67.length C69), (1, .slice A71 l70.length C72), (2, .int .u8 a73), (7, .slice A672 l671.length C673), (8, .slice A676 l675.length C677)] (by kernel_rfl) ?_
        refine EL.done (by kernel_rfl) ?_
        refine EQ.code ?_
        refine EW.seq (x := C13.r.r.r.r.l) (y := C13.r.r.r.r.r) (by kernel_rfl) ?_
        refine EW.region (id := 6) (ops := C13.r.r.r.r.l.ops) (by kernel_rfl) ?_
        refine EL.quick 2 [0, 1, 2, 7, 30, 31] [(0, .slice A68 l67.length C69), (1, .slice A71 l70.length C72), (2, .int .u8 a73), (7, .slice A672 l671.length C673), (30, .slice A672 l671.length C673), (31, .slice A676 l675.length C677)] (by kernel_rfl) ?_
        refine EL.of (EO.lit (xs := ([(A672, l671.length, C673), (A676, l675.length, C677)] : List Hdr)) hS Kd.hdr 40 51 2 #[(0, .slice A672 l671.length C673), (1, .slice A676 l675.length C677)] [.slice A672 l671.length C673, .slice A676 l675.length C677] 32 (by kernel_rfl) (by kernel_rfl) (by kernel_rfl) (fun _ => (by kernel_rfl)) rfl (by kernel_rfl) (fun w G hr => ⟨[.slice A672 l671.length C673], [.slice A676 l675.length C677], rfl, rfl, ⟨[.slice A676 l675.length C677], [], rfl, rfl, rfl⟩⟩) ?_)
        intro g684 w hS
        obtain ⟨t685, hc689, H⟩ := b1_out H
        have hF : St B _ (Ass.deep 40 21 (Kd.int .i32) (some ⟨g684, 0, none⟩) 2 ([l671, l675] : List (List Int)) :: os) (Ro.sl (Kd.int .i32) A68 C69 l67 :: Ro.sl (Kd.int .i32) A71 C72 l70 :: rs) := St.fold (B := B) (os := _) (rs := _) (et := 40) (et' := 21) (K := (Kd.int .i32)) (hs := [(A672, l671.length, C673), (A676, l675.length, C677)]) (xs := ([l671, l675] : List (List Int))) ⟨rfl, rfl, trivial⟩ (St.re hS [1, 2, 2] [] rfl sub_self)
        refine EL.of (EO.callD 39 [.slice (some ⟨g684, 0, none⟩) ([l671, l675] : List (List Int)).length 2] _ 33 (by kernel_rfl) (by kernel_rfl) (by kernel_rfl) (input_New.calls hc689 (hF.lend2 [Ro.sl (Kd.slice (Kd.int .i32)) (some ⟨g684, 0, none⟩) 2 ([l671, l675] : List (List Int))] ⟨Lend.deep 0 rfl, trivial⟩)) ?_)
        rintro v w ⟨g686, A687, C688, rfl, hL⟩
        have hS : St B w (Ass.box 67 g686 [.slice A687 t685.length C688] :: Ass.deep 40 21 (Kd.int .i32) A687 C688 t685 :: Ass.own 40 Kd.hdr (some ⟨g684, 0, none⟩) 2 ([(A672, l671.length, C673), (A676, l675.length, C677)] : List Hdr) :: Ass.own 21 (Kd.int .i32) A676 C677 l675 :: Ass.own 21 (Kd.int .i32) A672 C673 l671 :: os) (Ro.sl (Kd.int .i32) A68 C69 l67 :: Ro.sl (Kd.int .i32) A71 C72 l70 :: rs) := hS.borrow hL ⟨Solid.box, Solid.deep Plain.int, trivial⟩
        refine EL.quick 1 [0, 1, 2, 7, 9] [(0, .slice A68 l67.length C69), (1, .slice A71 l70.length C72), (2, .int .u8 a73), (7, .slice A672 l671.length C673), (9, .pointer (some ⟨g686, 0, none⟩))] (by kernel_rfl) ?_
        refine EL.done (by kernel_rfl) ?_
        refine EQ.code ?_
        obtain ⟨j780, hj780, H⟩ := lt_out H
        refine EW.cut (x := C13.r.r.r.r.r.l) (y := C13.r.r.r.r.r.r) (fun a w => ∃ x777 : List Int, ∃ A778 : Option Addr, ∃ C779 : Nat, Sat 103 [(0, .slice A68 l67.length C69), (1, .slice A71 l70.length C72), (2, .int .u8 a73), (9, .pointer (some ⟨g686, 0, none⟩))] a ∧ St B w (Ass.box 67 g686 [.slice A687 t685.length C688] :: Ass.deep 40 21 (Kd.int .i32) A687 C688 t685 :: Ass.own 40 Kd.hdr (some ⟨g684, 0, none⟩) 2 ([(A672, l671.length, C673), (A676, l675.length, C677)] : List Hdr) :: Ass.own 21 (Kd.int .i32) A676 C677 l675 :: Ass.own 21 (Kd.int .i32) A778 C779 x777 :: os) (Ro.sl (Kd.int .i32) A68 C69 l67 :: Ro.sl (Kd.int .i32) A71 C72 l70 :: rs) ∧ j780 x777 = some x637) (by kernel_rfl) ?_ (fun a w hI => ?_)
        · refine EW.seq (x := C13.r.r.r.r.r.l.l) (y := C13.r.r.r.r.r.l.r) (by kernel_rfl) ?_
          refine EW.region (id := 7) (ops := C13.r.r.r.r.r.l.l.ops) (by kernel_rfl) ?_
          refine EL.quick 1 [0, 1, 2, 7, 9, 10] [(0, .slice A68 l67.length C69), (1, .slice A71 l70.length C72), (2, .int .u8 a73), (7, .slice A672 l671.length C673), (9, .pointer (some ⟨g686, 0, none⟩)), (10, .int .i64 0)] (by kernel_rfl) ?_
          refine EL.done (by kernel_rfl) ?_
          refine EQ.code ?_
          refine EW.block (x := C13.r.r.r.r.r.l.r.l) (id := 0) (by kernel_rfl) ?_
          refine EW.loop (x := C13.r.r.r.r.r.l.r.l.l) (fun n a w => ∃ x795 : List Int, ∃ x798 : Int, ∃ A796 : Option Addr, ∃ C797 : Nat, Sat 103 [(0, .slice A68 l67.length C69), (1, .slice A71 l70.length C72), (2, .int .u8 a73), (7, .slice A796 x795.length C797), (9, .pointer (some ⟨g686, 0, none⟩)), (10, .int .i64 x798)] a ∧ St B w (Ass.box 67 g686 [.slice A687 t685.length C688] :: Ass.deep 40 21 (Kd.int .i32) A687 C688 t685 :: Ass.own 40 Kd.hdr (some ⟨g684, 0, none⟩) 2 ([(A672, l671.length, C673), (A676, l675.length, C677)] : List Hdr) :: Ass.own 21 (Kd.int .i32) A676 C677 l675 :: Ass.own 21 (Kd.int .i32) A796 C797 x795 :: os) (Ro.sl (Kd.int .i32) A68 C69 l67 :: Ro.sl (Kd.int .i32) A71 C72 l70 :: rs) ∧ confidantlaw14_InputKeeps.l0 K j780 n x795 x798 = some x637) K (by kernel_rfl) ?_ (fun n a w hI => ?_)
          · refine EQ.keep [0, 1, 2, 7, 9, 10] [(0, .slice A68 l67.length C69), (1, .slice A71 l70.length C72), (2, .int .u8 a73), (7, .slice A672 l671.length C673), (9, .pointer (some ⟨g686, 0, none⟩)), (10, .int .i64 0)] (by kernel_rfl) ?_
            exact fun a ha => ⟨l671, 0, A672, C673, ha, (hS.re [4, 4, 4, 4, 4] [] rfl (sub_cons 0 rfl (sub_cons 1 rfl (sub_tail (sub_tail (sub_self)))))), H⟩
          · obtain ⟨x795, x798, A796, C797, ha, hS, H⟩ := hI
            obtain _ | n := n
            · simp [confidantlaw14_InputKeeps.l0] at H
            rw [confidantlaw14_InputKeeps.l0.eq_2] at H
            refine EW.at ?_ a ha
            clear ha a
            refine EW.seq (x := C13.r.r.r.r.r.l.r.l.l.l) (y := C13.r.r.r.r.r.l.r.l.l.r) (by kernel_rfl) ?_
            refine EW.seq (x := C13.r.r.r.r.r.l.r.l.l.l.l) (y := C13.r.r.r.r.r.l.r.l.l.l.r) (by kernel_rfl) ?_
            refine EW.region (id := 8) (ops := C13.r.r.r.r.r.l.r.l.l.l.l.ops) (by kernel_rfl) ?_
            refine EL.quick 4 [0, 1, 2, 7, 9, 10, 37] [(0, .slice A68 l67.length C69), (1, .slice A71 l70.length C72), (2, .int .u8 a73), (7, .slice A796 x795.length C797), (9, .pointer (some ⟨g686, 0, none⟩)), (10, .int .i64 x798), (37, .bool (decide (x798 < (x795.length : Int))))] (by kernel_rfl) ?_
            refine EL.done (by kernel_rfl) ?_
            refine EQ.code ?_
            refine EW.condP (o := (.tmp 37)) (x := C13.r.r.r.r.r.l.r.l.l.l.r.l) (y := C13.r.r.r.r.r.l.r.l.l.l.r.r) (x798 < (x795.length : Int)) (by kernel_rfl) (by kernel_rfl) (fun h816 => ?_) (fun h816 => ?_)
            · rw [if_pos h816] at H
              refine EW.skip (by kernel_rfl) ?_
              refine EQ.code ?_
              refine EW.seq (x := C13.r.r.r.r.r.l.r.l.l.r.l) (y := C13.r.r.r.r.r.l.r.l.l.r.r) (by kernel_rfl) ?_
              refine EW.block (x := C13.r.r.r.r.r.l.r.l.l.r.l.l) (id := 1) (by kernel_rfl) ?_
              refine EW.region (id := 10) (ops := C13.r.r.r.r.r.l.r.l.l.r.l.l.ops) (by kernel_rfl) ?_
              refine EL.quick 2 [0, 1, 2, 7, 9, 10, 40, 41] [(0, .slice A68 l67.length C69), (1, .slice A71 l70.length C72), (2, .int .u8 a73), (7, .slice A796 x795.length C797), (9, .pointer (some ⟨g686, 0, none⟩)), (10, .int .i64 x798), (40, .slice A796 x795.length C797), (41, .int .i64 x798)] (by kernel_rfl) ?_
              obtain ⟨h820, H⟩ := ite_in H
              obtain ⟨ad821, rfl⟩ := St.rd_some hS (Rd.own 4 21 rfl) h820 h816
              refine EL.of (EO.Y (YO.idx 40 1 ad821 x795.length C797 .i64 x798 42 (by kernel_rfl) (by kernel_rfl) (by kernel_rfl) (by kernel_rfl) h820 h816) ?_)
              refine EL.of (EO.Y (YO.loadEl hS (Kd.int .i32) ad821 C797 x795 (Rd.own 4 21 rfl) 0 (encI .i32) encI_of x798 h820 h816 21 1 0 1 rfl (.int .i32 (x795.getD x798.toNat 0)) 43 (by kernel_rfl) (by kernel_rfl) (by kernel_rfl) (by kernel_rfl)) ?_)
              refine EL.quick 1 [0, 1, 2, 7, 9, 10, 40, 41, 44] [(0, .slice A68 l67.length C69), (1, .slice A71 l70.length C72), (2, .int .u8 a73), (7, .slice (some ad821) x795.length C797), (9, .pointer (some ⟨g686, 0, none⟩)), (10, .int .i64 x798), (40, .slice (some ad821) x795.length C797), (41, .int .i64 x798), (44, .int .i32 (IntKind.i32.wrap ((x795.getD x798.toNat 0) + 1)))] (by kernel_rfl) ?_
              refine EL.of (EO.Y (YO.idx 40 1 ad821 x795.length C797 .i64 x798 45 (by kernel_rfl) (by kernel_rfl) (by kernel_rfl) (by kernel_rfl) h820 h816) ?_)
              obtain ⟨l822, hl822, H⟩ := lt_out H
              refine EL.of (EO.storeEl hS 4 (Kd.int .i32) 21 ad821 C797 x795 rfl x798 h820 h816 0 21 1 0 rfl (.int .i32 (IntKind.i32.wrap ((x795.getD x798.toNat 0) + 1))) (IntKind.i32.wrap ((x795.getD x798.toNat 0) + 1)) l822 hl822 (Ass.box 67 g686 [.slice A687 t685.length C688] :: Ass.deep 40 21 (Kd.int .i32) A687 C688 t685 :: Ass.own 40 Kd.hdr (some ⟨g684, 0, none⟩) 2 ([(A672, l671.length, C673), (A676, l675.length, C677)] : List Hdr) :: Ass.own 21 (Kd.int .i32) A676 C677 l675 :: Ass.own 21 (Kd.int .i32) (some ad821) C797 l822 :: os) (by kernel_rfl) (by kernel_rfl) (by kernel_rfl) (by kernel_rfl) (by kernel_rfl) (by kernel_rfl) (fun w G vs hr h => set_whole h (by kernel_rfl) rfl) rfl ?_)
              intro w hS
              refine EL.keep [0, 1, 2, 7, 9, 10] [(0, .slice A68 l67.length C69), (1, .slice A71 l70.length C72), (2, .int .u8 a73), (7, .slice (some ad821) x795.length C797), (9, .pointer (some ⟨g686, 0, none⟩)), (10, .int .i64 x798)] (by kernel_rfl) ?_
              refine EL.as' [(0, .slice A68 l67.length C69), (1, .slice A71 l70.length C72), (2, .int .u8 a73), (7, .slice (some ad821) l822.length C797), (9, .pointer (some ⟨g686, 0, none⟩)), (10, .int .i64 x798)] (by simp only [hl822, List.length_set]) ?_
              refine EL.done (by kernel_rfl) ?_
              refine EQ.pop ?_
              refine EQ.code ?_
              refine EW.region (id := 9) (ops := C13.r.r.r.r.r.l.r.l.l.r.r.ops) (by kernel_rfl) ?_
              refine EL.quick 3 [0, 1, 2, 7, 9, 10] [(0, .slice A68 l67.length C69), (1, .slice A71 l70.length C72), (2, .int .u8 a73), (7, .slice (some ad821) l822.length C797), (9, .pointer (some ⟨g686, 0, none⟩)), (10, .int .i64 (IntKind.i64.wrap (x798 + 1)))] (by kernel_rfl) ?_
              refine EL.done (by kernel_rfl) ?_
              refine EQ.to ?_
              refine EQ.keep [0, 1, 2, 7, 9, 10] [(0, .slice A68 l67.length C69), (1, .slice A71 l70.length C72), (2, .int .u8 a73), (7, .slice (some ad821) l822.length C797), (9, .pointer (some ⟨g686, 0, none⟩)), (10, .int .i64 (IntKind.i64.wrap (x798 + 1)))] (by kernel_rfl) ?_
              exact fun a ha => ⟨n, Nat.lt_succ_self n, l822, IntKind.i64.wrap (x798 + 1), (some ad821), C797, ha, (hS.re [4, 4, 4, 4, 4] [] rfl (sub_cons 0 rfl (sub_cons 1 rfl (sub_tail (sub_tail (sub_self)))))), H⟩
            · rw [if_neg h816] at H
              refine EW.exit (id := 0) (by kernel_rfl) ?_
              refine EQ.exitCode ?_
              refine EQ.exitTo ?_
              refine EQ.exitHere ?_
              refine EQ.to ?_
              refine EQ.keep [0, 1, 2, 9] [(0, .slice A68 l67.length C69), (1, .slice A71 l70.length C72), (2, .int .u8 a73), (9, .pointer (some ⟨g686, 0, none⟩))] (by kernel_rfl) ?_
              exact fun a ha => ⟨x795, A796, C797, ha, (hS.re [4, 4, 4, 4, 4] [] rfl (sub_cons 0 rfl (sub_cons 1 rfl (sub_tail (sub_tail (sub_self)))))), H⟩
        · obtain ⟨x777, A778, C779, ha, hS, H⟩ := hI
          rw [hj780] at H
          (try dsimp only at H)
          refine EW.at ?_ a ha
          clear ha a
          obtain ⟨j1061, hj1061, H⟩ := lt_out H
          refine EW.cut (x := C13.r.r.r.r.r.r.l) (y := C13.r.r.r.r.r.r.r) (fun a w => Sat 103 [(0, .slice A68 l67.length C69), (1, .slice A71 l70.length C72), (2, .int .u8 a73), (9, .pointer (some ⟨g686, 0, none⟩))] a ∧ St B w (Ass.box 67 g686 [.slice A687 t685.length C688] :: Ass.deep 40 21 (Kd.int .i32) A687 C688 t685 :: Ass.own 40 Kd.hdr (some ⟨g684, 0, none⟩) 2 ([(A672, l671.length, C673), (A676, l675.length, C677)] : List Hdr) :: Ass.own 21 (Kd.int .i32) A676 C677 l675 :: Ass.own 21 (Kd.int .i32) A778 C779 x777 :: os) (Ro.sl (Kd.int .i32) A68 C69 l67 :: Ro.sl (Kd.int .i32) A71 C72 l70 :: rs) ∧ j1061 = some x637) (by kernel_rfl) ?_ (fun a w hI => ?_)
          · refine EW.seq (x := C13.r.r.r.r.r.r.l.l) (y := C13.r.r.r.r.r.r.l.r) (by kernel_rfl) ?_
            refine EW.region (id := 11) (ops := C13.r.r.r.r.r.r.l.l.ops) (by kernel_rfl) ?_
            refine EL.quick 1 [0, 1, 2, 9, 11] [(0, .slice A68 l67.length C69), (1, .slice A71 l70.length C72), (2, .int .u8 a73), (9, .pointer (some ⟨g686, 0, none⟩)), (11, .int .i64 0)] (by kernel_rfl) ?_
            refine EL.done (by kernel_rfl) ?_
            refine EQ.code ?_
            refine EW.block (x := C13.r.r.r.r.r.r.l.r.l) (id := 2) (by kernel_rfl) ?_
            refine EW.loop (x := C13.r.r.r.r.r.r.l.r.l.l) (fun n a w => ∃ x1098 : Int, Sat 103 [(0, .slice A68 l67.length C69), (1, .slice A71 l70.length C72), (2, .int .u8 a73), (9, .pointer (some ⟨g686, 0, none⟩)), (11, .int .i64 x1098)] a ∧ St B w (Ass.box 67 g686 [.slice A687 t685.length C688] :: Ass.deep 40 21 (Kd.int .i32) A687 C688 t685 :: Ass.own 40 Kd.hdr (some ⟨g684, 0, none⟩) 2 ([(A672, l671.length, C673), (A676, l675.length, C677)] : List Hdr) :: Ass.own 21 (Kd.int .i32) A676 C677 l675 :: Ass.own 21 (Kd.int .i32) A778 C779 x777 :: os) (Ro.sl (Kd.int .i32) A68 C69 l67 :: Ro.sl (Kd.int .i32) A71 C72 l70 :: rs) ∧ confidantlaw14_InputKeeps.l1 K l67 t685 j1061 n x1098 = some x637) K (by kernel_rfl) ?_ (fun n a w hI => ?_)
            · refine EQ.keep [0, 1, 2, 9, 11] [(0, .slice A68 l67.length C69), (1, .slice A71 l70.length C72), (2, .int .u8 a73), (9, .pointer (some ⟨g686, 0, none⟩)), (11, .int .i64 0)] (by kernel_rfl) ?_
              exact fun a ha => ⟨0, ha, (hS.re [4, 4, 4, 4, 4] [] rfl (sub_cons 0 rfl (sub_cons 1 rfl (sub_tail (sub_tail (sub_self)))))), H⟩
            · obtain ⟨x1098, ha, hS, H⟩ := hI
              obtain _ | n := n
              · simp [confidantlaw14_InputKeeps.l1] at H
              rw [confidantlaw14_InputKeeps.l1.eq_2] at H
              refine EW.at ?_ a ha
              clear ha a
              refine EW.seq (x := C13.r.r.r.r.r.r.l.r.l.l.l) (y := C13.r.r.r.r.r.r.l.r.l.l.r) (by kernel_rfl) ?_
              refine EW.seq (x := C13.r.r.r.r.r.r.l.r.l.l.l.l) (y := C13.r.r.r.r.r.r.l.r.l.l.l.r) (by kernel_rfl) ?_
              refine EW.region (id := 12) (ops := C13.r.r.r.r.r.r.l.r.l.l.l.l.ops) (by kernel_rfl) ?_
              refine EL.quick 4 [0, 1, 2, 9, 11, 49] [(0, .slice A68 l67.length C69), (1, .slice A71 l70.length C72), (2, .int .u8 a73), (9, .pointer (some ⟨g686, 0, none⟩)), (11, .int .i64 x1098), (49, .bool (decide (x1098 < (l67.length : Int))))] (by kernel_rfl) ?_
              refine EL.done (by kernel_rfl) ?_
              refine EQ.code ?_
              refine EW.condP (o := (.tmp 49)) (x := C13.r.r.r.r.r.r.l.r.l.l.l.r.l) (y := C13.r.r.r.r.r.r.l.r.l.l.l.r.r) (x1098 < (l67.length : Int)) (by kernel_rfl) (by kernel_rfl) (fun h1142 => ?_) (fun h1142 => ?_)
              · rw [if_pos h1142] at H
                refine EW.skip (by kernel_rfl) ?_
                refine EQ.code ?_
                refine EW.seq (x := C13.r.r.r.r.r.r.l.r.l.l.r.l) (y := C13.r.r.r.r.r.r.l.r.l.l.r.r) (by kernel_rfl) ?_
                refine EW.block (x := C13.r.r.r.r.r.r.l.r.l.l.r.l.l) (id := 3) (by kernel_rfl) ?_
                refine EW.seq (x := C13.r.r.r.r.r.r.l.r.l.l.r.l.l.l) (y := C13.r.r.r.r.r.r.l.r.l.l.r.l.l.r) (by kernel_rfl) ?_
                refine EW.region (id := 14) (ops := C13.r.r.r.r.r.r.l.r.l.l.r.l.l.l.ops) (by kernel_rfl) ?_
                refine EL.quick 3 [0, 1, 2, 9, 11, 53, 55] [(0, .slice A68 l67.length C69), (1, .slice A71 l70.length C72), (2, .int .u8 a73), (9, .pointer (some ⟨g686, 0, none⟩)), (11, .int .i64 x1098), (53, .pointer (some ⟨g686, 0, none⟩)), (55, .int .i32 (IntKind.i32.wrap x1098))] (by kernel_rfl) ?_
                obtain ⟨t1165, t1166, hc1167, H⟩ := b2_out H
                refine EL.of (EO.callD 40 [.pointer (some ⟨g686, 0, none⟩), .int .i64 0, .int .i32 (IntKind.i32.wrap x1098)] _ 56 (by kernel_rfl) (by kernel_rfl) (by kernel_rfl) (input_Inputs_Get.calls hc1167 hS) ?_)
                rintro v w ⟨rfl, hS⟩
                refine EL.quick 5 [0, 1, 2, 9, 11, 12, 13] [(0, .slice A68 l67.length C69), (1, .slice A71 l70.length C72), (2, .int .u8 a73), (9, .pointer (some ⟨g686, 0, none⟩)), (11, .int .i64 x1098), (12, .int .i32 t1165), (13, .bool (t1166))] (by kernel_rfl) ?_
                refine EL.done (by kernel_rfl) ?_
                refine EQ.code ?_
                obtain ⟨j1176, hj1176, H⟩ := lt_out H
                refine EW.cut (x := C13.r.r.r.r.r.r.l.r.l.l.r.l.l.r.l) (y := C13.r.r.r.r.r.r.l.r.l.l.r.l.l.r.r) (fun a w => ∃ x1175 : Bool, Sat 103 [(0, .slice A68 l67.length C69), (1, .slice A71 l70.length C72), (2, .int .u8 a73), (9, .pointer (some ⟨g686, 0, none⟩)), (11, .int .i64 x1098), (68, .bool (x1175))] a ∧ St B w (Ass.box 67 g686 [.slice A687 t685.length C688] :: Ass.deep 40 21 (Kd.int .i32) A687 C688 t685 :: Ass.own 40 Kd.hdr (some ⟨g684, 0, none⟩) 2 ([(A672, l671.length, C673), (A676, l675.length, C677)] : List Hdr) :: Ass.own 21 (Kd.int .i32) A676 C677 l675 :: Ass.own 21 (Kd.int .i32) A778 C779 x777 :: os) (Ro.sl (Kd.int .i32) A68 C69 l67 :: Ro.sl (Kd.int .i32) A71 C72 l70 :: rs) ∧ j1176 x1175 = some x637) (by kernel_rfl) ?_ (fun a w hI => ?_)
                · refine EW.region (id := 15) (ops := C13.r.r.r.r.r.r.l.r.l.l.r.l.l.r.l.ops) (by kernel_rfl) ?_
                  refine EL.quick 3 [0, 1, 2, 9, 11, 12, 61] [(0, .slice A68 l67.length C69), (1, .slice A71 l70.length C72), (2, .int .u8 a73), (9, .pointer (some ⟨g686, 0, none⟩)), (11, .int .i64 x1098), (12, .int .i32 t1165), (61, .bool (!(t1166)))] (by kernel_rfl) ?_
                  by_cases h1177 : t1166 = true
                  · rw [if_pos h1177] at H
                    refine EL.keep [0, 1, 2, 9, 11, 12, 61] [(0, .slice A68 l67.length C69), (1, .slice A71 l70.length C72), (2, .int .u8 a73), (9, .pointer (some ⟨g686, 0, none⟩)), (11, .int .i64 x1098), (12, .int .i32 t1165), (61, .bool (!(t1166)))] (by kernel_rfl) ?_
                    refine EL.as' [(0, .slice A68 l67.length C69), (1, .slice A71 l70.length C72), (2, .int .u8 a73), (9, .pointer (some ⟨g686, 0, none⟩)), (11, .int .i64 x1098), (12, .int .i32 t1165), (61, .bool (false))] (by simp only [h1177, Bool.not_true, Bool.not_false]) ?_
                    refine EL.quick 3 [0, 1, 2, 9, 11, 61, 62, 63, 64] [(0, .slice A68 l67.length C69), (1, .slice A71 l70.length C72), (2, .int .u8 a73), (9, .pointer (some ⟨g686, 0, none⟩)), (11, .int .i64 x1098), (61, .bool (false)), (62, .int .i32 t1165), (63, .slice A68 l67.length C69), (64, .int .i64 x1098)] (by kernel_rfl) ?_
                    obtain ⟨h1178, H⟩ := ite_in H
                    obtain ⟨ad1179, rfl⟩ := St.rd_some hS (Rd.ro 0 rfl) h1178 h1142
                    refine EL.of (EO.Y (YO.idx 40 1 ad1179 l67.length C69 .i64 x1098 65 (by kernel_rfl) (by kernel_rfl) (by kernel_rfl) (by kernel_rfl) h1178 h1142) ?_)
                    refine EL.of (EO.Y (YO.loadEl hS (Kd.int .i32) ad1179 C69 l67 (Rd.ro 0 rfl) 0 (encI .i32) encI_of x1098 h1178 h1142 21 1 0 1 rfl (.int .i32 (l67.getD x1098.toNat 0)) 66 (by kernel_rfl) (by kernel_rfl) (by kernel_rfl) (by kernel_rfl)) ?_)
                    refine EL.quick 2 [0, 1, 2, 9, 11, 62, 63, 64, 65, 66, 67, 68] [(0, .slice (some ad1179) l67.length C69), (1, .slice A71 l70.length C72), (2, .int .u8 a73), (9, .pointer (some ⟨g686, 0, none⟩)), (11, .int .i64 x1098), (62, .int .i32 t1165), (63, .slice (some ad1179) l67.length C69), (64, .int .i64 x1098), (65, .pointer (some ((ad1179.add (x1098.toNat * 1)).add 0))), (66, .int .i32 (l67.getD x1098.toNat 0)), (67, .bool (!(decide (t1165 = (l67.getD x1098.toNat 0))))), (68, .bool (!(decide (t1165 = (l67.getD x1098.toNat 0)))))] (by kernel_rfl) ?_
                    refine EL.done (by kernel_rfl) ?_
                    refine EQ.to ?_
                    refine EQ.keep [0, 1, 2, 9, 11, 68] [(0, .slice (some ad1179) l67.length C69), (1, .slice A71 l70.length C72), (2, .int .u8 a73), (9, .pointer (some ⟨g686, 0, none⟩)), (11, .int .i64 x1098), (68, .bool (!(decide (t1165 = (l67.getD x1098.toNat 0)))))] (by kernel_rfl) ?_
                    exact fun a ha => ⟨!(decide (t1165 = (l67.getD x1098.toNat 0))), ha, (hS.re [4, 4, 4, 4, 4] [] rfl (sub_cons 0 rfl (sub_cons 1 rfl (sub_tail (sub_tail (sub_self)))))), H⟩
                  · rw [if_neg h1177] at H
                    refine EL.keep [0, 1, 2, 9, 11, 12, 61] [(0, .slice A68 l67.length C69), (1, .slice A71 l70.length C72), (2, .int .u8 a73), (9, .pointer (some ⟨g686, 0, none⟩)), (11, .int .i64 x1098), (12, .int .i32 t1165), (61, .bool (!(t1166)))] (by kernel_rfl) ?_
                    refine EL.as' [(0, .slice A68 l67.length C69), (1, .slice A71 l70.length C72), (2, .int .u8 a73), (9, .pointer (some ⟨g686, 0, none⟩)), (11, .int .i64 x1098), (12, .int .i32 t1165), (61, .bool (true))] (by simp only [(Bool.eq_false_iff.2 h1177), Bool.not_true, Bool.not_false]) ?_
                    refine EL.quick 7 [0, 1, 2, 9, 11, 68] [(0, .slice A68 l67.length C69), (1, .slice A71 l70.length C72), (2, .int .u8 a73), (9, .pointer (some ⟨g686, 0, none⟩)), (11, .int .i64 x1098), (68, .bool (true))] (by kernel_rfl) ?_
                    refine EL.done (by kernel_rfl) ?_
                    refine EQ.to ?_
                    refine EQ.keep [0, 1, 2, 9, 11, 68] [(0, .slice A68 l67.length C69), (1, .slice A71 l70.length C72), (2, .int .u8 a73), (9, .pointer (some ⟨g686, 0, none⟩)), (11, .int .i64 x1098), (68, .bool (true))] (by kernel_rfl) ?_
                    exact fun a ha => ⟨true, ha, (hS.re [4, 4, 4, 4, 4] [] rfl (sub_cons 0 rfl (sub_cons 1 rfl (sub_tail (sub_tail (sub_self)))))), H⟩
                · obtain ⟨x1175, ha, hS, H⟩ := hI
                  rw [hj1176] at H
                  (try dsimp only at H)
                  refine EW.at ?_ a ha
                  clear ha a
                  refine EW.condP' (o := (.tmp 68)) (x := C13.r.r.r.r.r.r.l.r.l.l.r.l.l.r.r.l) (y := C13.r.r.r.r.r.r.l.r.l.l.r.l.l.r.r.r) (x1175) (by kernel_rfl) (by kernel_rfl) (fun h1180 => ?_) (fun h1180 => ?_)
                  · rw [if_pos h1180] at H
                    refine EW.seq (x := C13.r.r.r.r.r.r.l.r.l.l.r.l.l.r.r.l.l) (y := C13.r.r.r.r.r.r.l.r.l.l.r.l.l.r.r.l.r) (by kernel_rfl) ?_
                    refine EW.region (id := 16) (ops := C13.r.r.r.r.r.r.l.r.l.l.r.l.l.r.r.l.l.ops) (by kernel_rfl) ?_
                    refine EL.quick 1 [6] [(6, .bool (false))] (by kernel_rfl) ?_
                    refine EL.done (by kernel_rfl) ?_
                    refine EQ.code ?_
                    refine EW.ret (by kernel_rfl) ?_
                    refine EQ.ret ?_
                    refine EQ.ret ?_
                    refine EQ.ret ?_
                    refine EQ.ret ?_
                    refine EQ.ret ?_
                    obtain rfl := Option.some.inj H
                    exact EQ.leave (.bool (false)) (by kernel_rfl) ⟨_, rfl, rfl, (hS.re [] [0, 0, 0, 0, 0] rfl (sub_self))⟩
                  · rw [if_neg h1180] at H
                    refine EW.skip (by kernel_rfl) ?_
                    refine EQ.pop ?_
                    refine EQ.code ?_
                    refine EW.region (id := 13) (ops := C13.r.r.r.r.r.r.l.r.l.l.r.r.ops) (by kernel_rfl) ?_
                    refine EL.quick 3 [0, 1, 2, 9, 11] [(0, .slice A68 l67.length C69), (1, .slice A71 l70.length C72), (2, .int .u8 a73), (9, .pointer (some ⟨g686, 0, none⟩)), (11, .int .i64 (IntKind.i64.wrap (x1098 + 1)))] (by kernel_rfl) ?_
                    refine EL.done (by kernel_rfl) ?_
                    refine EQ.to ?_
                    refine EQ.keep [0, 1, 2, 9, 11] [(0, .slice A68 l67.length C69), (1, .slice A71 l70.length C72), (2, .int .u8 a73), (9, .pointer (some ⟨g686, 0, none⟩)), (11, .int .i64 (IntKind.i64.wrap (x1098 + 1)))] (by kernel_rfl) ?_
                    exact fun a ha => ⟨n, Nat.lt_succ_self n, IntKind.i64.wrap (x1098 + 1), ha, (hS.re [4, 4, 4, 4, 4] [] rfl (sub_cons 0 rfl (sub_cons 1 rfl (sub_tail (sub_tail (sub_self)))))), H⟩
              · rw [if_neg h1142] at H
                refine EW.exit (id := 2) (by kernel_rfl) ?_
                refine EQ.exitCode ?_
                refine EQ.exitTo ?_
                refine EQ.exitHere ?_
                refine EQ.to ?_
                refine EQ.keep [0, 1, 2, 9] [(0, .slice A68 l67.length C69), (1, .slice A71 l70.length C72), (2, .int .u8 a73), (9, .pointer (some ⟨g686, 0, none⟩))] (by kernel_rfl) ?_
                exact fun a ha => ⟨ha, (hS.re [4, 4, 4, 4, 4] [] rfl (sub_cons 0 rfl (sub_cons 1 rfl (sub_tail (sub_tail (sub_self)))))), H⟩
          · obtain ⟨ha, hS, H⟩ := hI
            rw [hj1061] at H
            (try dsimp only at H)
            refine EW.at ?_ a ha
            clear ha a
            refine EW.seq (x := C13.r.r.r.r.r.r.r.l) (y := C13.r.r.r.r.r.r.r.r) (by kernel_rfl) ?_
            refine EW.region (id := 17) (ops := C13.r.r.r.r.r.r.r.l.ops) (by kernel_rfl) ?_
            refine EL.quick 8 [0, 1, 2, 9, 70, 73, 75, 77] [(0, .slice A68 l67.length C69), (1, .slice A71 l70.length C72), (2, .int .u8 a73), (9, .pointer (some ⟨g686, 0, none⟩)), (70, .pointer (some ⟨g686, 0, none⟩)), (73, .int .i64 (IntKind.i64.wrap (Int.tmod a73 2))), (75, .int .i64 (l67.length : Int)), (77, .int .i64 (l70.length : Int))] (by kernel_rfl) ?_
            obtain ⟨l1189, hl1189, H⟩ := lt_out H
            refine EL.of (EO.lit hS (Kd.int .i64) 3 23 2 #[(0, .int .i64 (l67.length : Int)), (1, .int .i64 (l70.length : Int))] [.int .i64 (l67.length : Int), .int .i64 (l70.length : Int)] l1189 78 (by kernel_rfl) (by kernel_rfl) (by kernel_rfl) (fun _ => (by kernel_rfl)) (by rw [hl1189]; rfl) (by kernel_rfl) (fun w G hr => (by rw [hl1189]; exact ⟨[.int .i64 (l67.length : Int)], [.int .i64 (l70.length : Int)], rfl, rfl, ⟨[.int .i64 (l70.length : Int)], [], rfl, rfl, rfl⟩⟩)) ?_)
            intro g1188 w hS
            refine EL.quick 2 [0, 1, 9, 70, 73, 78, 80] [(0, .slice A68 l67.length C69), (1, .slice A71 l70.length C72), (9, .pointer (some ⟨g686, 0, none⟩)), (70, .pointer (some ⟨g686, 0, none⟩)), (73, .int .i64 (IntKind.i64.wrap (Int.tmod a73 2))), (78, .slice (some ⟨g1188, 0, none⟩) l1189.length 2), (80, .int .u8 (Int.tmod a73 2))] (by kernel_rfl) ?_
            obtain ⟨h1190, H⟩ := ite_in H
            obtain ⟨h1191, H⟩ := ite_in H
            refine EL.of (EO.Y (YO.idx 23 1 ⟨g1188, 0, none⟩ l1189.length 2 .u8 (Int.tmod a73 2) 81 (by kernel_rfl) (by kernel_rfl) (by kernel_rfl) (by kernel_rfl) h1190 h1191) ?_)
            refine EL.of (EO.Y (YO.loadEl hS (Kd.int .i64) ⟨g1188, 0, none⟩ 2 l1189 (Rd.own 0 3 rfl) 0 (encI .i64) encI_of (Int.tmod a73 2) h1190 h1191 3 1 0 1 rfl (.int .i64 (l1189.getD (Int.tmod a73 2).toNat 0)) 82 (by kernel_rfl) (by kernel_rfl) (by kernel_rfl) (by kernel_rfl)) ?_)
            refine EL.quick 1 [0, 1, 9, 70, 73, 83] [(0, .slice A68 l67.length C69), (1, .slice A71 l70.length C72), (9, .pointer (some ⟨g686, 0, none⟩)), (70, .pointer (some ⟨g686, 0, none⟩)), (73, .int .i64 (IntKind.i64.wrap (Int.tmod a73 2))), (83, .int .i32 (IntKind.i32.wrap (l1189.getD (Int.tmod a73 2).toNat 0)))] (by kernel_rfl) ?_
            have hS : St B _ (Ass.box 67 g686 [.slice A687 t685.length C688] :: Ass.deep 40 21 (Kd.int .i32) A687 C688 t685 :: Ass.own 3 (Kd.int .i64) (some ⟨g1188, 0, none⟩) 2 l1189 :: Ass.own 40 Kd.hdr (some ⟨g684, 0, none⟩) 2 ([(A672, l671.length, C673), (A676, l675.length, C677)] : List Hdr) :: Ass.own 21 (Kd.int .i32) A676 C677 l675 :: Ass.own 21 (Kd.int .i32) A778 C779 x777 :: os) (Ro.sl (Kd.int .i32) A68 C69 l67 :: Ro.sl (Kd.int .i32) A71 C72 l70 :: rs) := hS.re [2, 2] [] rfl sub_self
            obtain ⟨t1192, t1193, hc1194, H⟩ := b2_out H
            refine EL.of (EO.callD 40 [.pointer (some ⟨g686, 0, none⟩), .int .i64 (IntKind.i64.wrap (Int.tmod a73 2)), .int .i32 (IntKind.i32.wrap (l1189.getD (Int.tmod a73 2).toNat 0))] _ 84 (by kernel_rfl) (by kernel_rfl) (by kernel_rfl) (input_Inputs_Get.calls hc1194 hS) ?_)
            rintro v w ⟨rfl, hS⟩
            refine EL.quick 5 [0, 1, 9, 15] [(0, .slice A68 l67.length C69), (1, .slice A71 l70.length C72), (9, .pointer (some ⟨g686, 0, none⟩)), (15, .bool (t1193))] (by kernel_rfl) ?_
            refine EL.done (by kernel_rfl) ?_
            refine EQ.code ?_
            refine EW.seq (x := C13.r.r.r.r.r.r.r.r.l) (y := C13.r.r.r.r.r.r.r.r.r) (by kernel_rfl) ?_
            refine EW.region (id := 18) (ops := C13.r.r.r.r.r.r.r.r.l.ops) (by kernel_rfl) ?_
            refine EL.quick 3 [0, 1, 9, 89] [(0, .slice A68 l67.length C69), (1, .slice A71 l70.length C72), (9, .pointer (some ⟨g686, 0, none⟩)), (89, .bool (!(t1193)))] (by kernel_rfl) ?_
            by_cases h1195 : t1193 = true
            · rw [if_pos h1195] at H
              refine EL.keep [0, 1, 9, 89] [(0, .slice A68 l67.length C69), (1, .slice A71 l70.length C72), (9, .pointer (some ⟨g686, 0, none⟩)), (89, .bool (!(t1193)))] (by kernel_rfl) ?_
              refine EL.as' [(0, .slice A68 l67.length C69), (1, .slice A71 l70.length C72), (9, .pointer (some ⟨g686, 0, none⟩)), (89, .bool (false))] (by simp only [h1195, Bool.not_true, Bool.not_false]) ?_
              refine EL.quick 14 [6] [(6, .bool (false))] (by kernel_rfl) ?_
              refine EL.done (by kernel_rfl) ?_
              refine EQ.code ?_
              refine EW.ret (by kernel_rfl) ?_
              obtain rfl := Option.some.inj H
              exact EQ.leave (.bool (false)) (by kernel_rfl) ⟨_, rfl, rfl, (hS.re [] [0, 0, 0, 0, 0, 0] rfl (sub_self))⟩
            · rw [if_neg h1195] at H
              refine EL.keep [0, 1, 9, 89] [(0, .slice A68 l67.length C69), (1, .slice A71 l70.length C72), (9, .pointer (some ⟨g686, 0, none⟩)), (89, .bool (!(t1193)))] (by kernel_rfl) ?_
              refine EL.as' [(0, .slice A68 l67.length C69), (1, .slice A71 l70.length C72), (9, .pointer (some ⟨g686, 0, none⟩)), (89, .bool (true))] (by simp only [(Bool.eq_false_iff.2 h1195), Bool.not_true, Bool.not_false]) ?_
              refine EL.quick 1 [0, 1, 9, 89, 90] [(0, .slice A68 l67.length C69), (1, .slice A71 l70.length C72), (9, .pointer (some ⟨g686, 0, none⟩)), (89, .bool (true)), (90, .pointer (some ⟨g686, 0, none⟩))] (by kernel_rfl) ?_
              obtain ⟨t1196, hc1197, H⟩ := b1_out H
              refine EL.of (EO.callD 42 [.pointer (some ⟨g686, 0, none⟩), .int .i64 0] _ 91 (by kernel_rfl) (by kernel_rfl) (by kernel_rfl) (input_Inputs_Len.calls hc1197 hS) ?_)
              rintro v w ⟨rfl, hS⟩
              refine EL.quick 5 [1, 9, 96] [(1, .slice A71 l70.length C72), (9, .pointer (some ⟨g686, 0, none⟩)), (96, .bool (decide (t1196 = (l67.length : Int))))] (by kernel_rfl) ?_
              by_cases h1198 : t1196 = (l67.length : Int)
              · rw [if_pos h1198] at H
                refine EL.keep [1, 9, 96] [(1, .slice A71 l70.length C72), (9, .pointer (some ⟨g686, 0, none⟩)), (96, .bool (decide (t1196 = (l67.length : Int))))] (by kernel_rfl) ?_
                refine EL.as' [(1, .slice A71 l70.length C72), (9, .pointer (some ⟨g686, 0, none⟩)), (96, .bool (true))] (by simp only [dec_t h1198, Bool.not_true, Bool.not_false]) ?_
                refine EL.quick 1 [1, 96, 97] [(1, .slice A71 l70.length C72), (96, .bool (true)), (97, .pointer (some ⟨g686, 0, none⟩))] (by kernel_rfl) ?_
                obtain ⟨t1199, hc1200, H⟩ := b1_out H
                refine EL.of (EO.callD 42 [.pointer (some ⟨g686, 0, none⟩), .int .i64 1] _ 98 (by kernel_rfl) (by kernel_rfl) (by kernel_rfl) (input_Inputs_Len.calls hc1200 hS) ?_)
                rintro v w ⟨rfl, hS⟩
                refine EL.quick 5 [6] [(6, .bool (decide (t1199 = (l70.length : Int))))] (by kernel_rfl) ?_
                refine EL.done (by kernel_rfl) ?_
                refine EQ.code ?_
                refine EW.ret (by kernel_rfl) ?_
                obtain rfl := Option.some.inj H
                exact EQ.leave (.bool (decide (t1199 = (l70.length : Int)))) (by kernel_rfl) ⟨_, rfl, rfl, (hS.re [] [0, 0, 0, 0, 0, 0] rfl (sub_self))⟩
              · rw [if_neg h1198] at H
                refine EL.keep [1, 9, 96] [(1, .slice A71 l70.length C72), (9, .pointer (some ⟨g686, 0, none⟩)), (96, .bool (decide (t1196 = (l67.length : Int))))] (by kernel_rfl) ?_
                refine EL.as' [(1, .slice A71 l70.length C72), (9, .pointer (some ⟨g686, 0, none⟩)), (96, .bool (false))] (by simp only [dec_f h1198, Bool.not_true, Bool.not_false]) ?_
                refine EL.quick 7 [6] [(6, .bool (false))] (by kernel_rfl) ?_
                refine EL.done (by kernel_rfl) ?_
                refine EQ.code ?_
                refine EW.ret (by kernel_rfl) ?_
                obtain rfl := Option.some.inj H
                exact EQ.leave (.bool (false)) (by kernel_rfl) ⟨_, rfl, rfl, (hS.re [] [0, 0, 0, 0, 0, 0] rfl (sub_self))⟩
  · rw [if_neg h647] at H
    refine EW.seq (x := C13.r.l.r.l.l) (y := C13.r.l.r.l.r) (by kernel_rfl) ?_
    refine EW.region (id := 2) (ops := C13.r.l.r.l.l.ops) (by kernel_rfl) ?_
    refine EL.quick 1 [6] [(6, .bool (false))] (by kernel_rfl) ?_
    refine EL.done (by kernel_rfl) ?_
    refine EQ.code ?_
    refine EW.ret (by kernel_rfl) ?_
    refine EQ.ret ?_
    obtain rfl := Option.some.inj H
    exact EQ.leave (.bool (false)) (by kernel_rfl) ⟨_, rfl, rfl, (hS.re [] [] rfl (sub_self))⟩

def confidantlaw14_InputKeeps.Pure : Prop := ∀ (l67 : List Int) (l70 : List Int) (a73 : Int), l67.length * 4 ≤ 140737488351232 → (∀ x ∈ l67, (Lit.int .i32 x).wf = true) → l70.length * 4 ≤ 140737488351232 → (∀ x ∈ l70, (Lit.int .i32 x).wf = true) → (Lit.int .u8 a73).wf = true → ∃ K, confidantlaw14_InputKeeps.f K l67 l70 a73 = some true

end Go.Proofs.Ytepokhmomojcmaa.G
