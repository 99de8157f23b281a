import Derived.Test.YtepokhmomojcmaaG1
namespace Go.Proofs.Ytepokhmomojcmaa.G
open Go Go.Fw Go.RowKit Go.Proofs
set_option linter.unusedVariables false
set_option linter.unusedSimpArgs false

/-! ### confidant/confidantlaw9.WordDivides: function 10 -/
def confidantlaw9_WordDivides.f (K : Nat) (a3 : Int) (a4 : Int) : Option Bool := b1 (confidantlaw9_known.f K) fun (t50 : Bool) => (if t50 = true then (b2 (word_Div.f K a3 a4) fun (t56 : Int) (t57 : Bool) => (if a4 = 0 then (if t57 = true then (some false) else (some (decide (t56 = 0)))) else (b1 (word_Mul.f K t56 a4) fun (t67 : Int) => (b1 (word_Sub.f K a3 t67) fun (t69 : Int) => (lt (fun (x73 : Int) => (if t57 = true then (if (IntKind.i64.wrap t69) < x73 then (if (IntKind.i64.wrap (0 - (IntKind.i64.wrap t69))) < x73 then (if t69 = 0 then (some true) else (some ((decide (t69 < 0)) == (decide (a3 < 0))))) else (some false)) else (some false)) else (some false))) fun j74 => (if (IntKind.i64.wrap a4) < 0 then (j74 (IntKind.i64.wrap (0 - (IntKind.i64.wrap a4)))) else (j74 (IntKind.i64.wrap a4)))))))) else (some false))
set_option maxRecDepth 100000 in
theorem confidantlaw9_WordDivides.calls {K : Nat} {a3 : Int} {a4 : Int} {x42 : Bool} {B w : World} {os : List Ass} {rs : List Ro} (H : confidantlaw9_WordDivides.f K a3 a4 = some x42) (hS : St B w (os) (rs)) :
    Calls Try.prog 10 [.int .i32 a3, .int .i32 a4].toArray w (fun en w' => ∃ v, en = .returned v ∧ v = .bool (x42) ∧ St B w' (os) (rs)) := by
  unfold confidantlaw9_WordDivides.f at H
  refine calls_of_EW (args := [.int .i32 a3, .int .i32 a4]) (c := C10) 61 Try.func10 (by kernel_rfl) (by kernel_rfl) (by kernel_rfl) ?_
  refine EW.seq (x := C10.l) (y := C10.r) (by kernel_rfl) ?_
  refine EW.region (id := 0) (ops := C10.l.ops) (by kernel_rfl) ?_
  refine EL.quick 1 [0, 1] [(0, .int .i32 a3), (1, .int .i32 a4)] (by kernel_rfl) ?_
  refine EL.done (by kernel_rfl) ?_
  refine EQ.code ?_
  refine EW.seq (x := C10.r.l) (y := C10.r.r) (by kernel_rfl) ?_
  refine EW.seq (x := C10.r.l.l) (y := C10.r.l.r) (by kernel_rfl) ?_
  refine EW.region (id := 1) (ops := C10.r.l.l.ops) (by kernel_rfl) ?_
  obtain ⟨t50, hc51, H⟩ := b1_out H
  refine EL.of (EO.callD 29 [] _ 9 (by kernel_rfl) (by kernel_rfl) (by kernel_rfl) (confidantlaw9_known.calls hc51 hS) ?_)
  rintro v w ⟨rfl, hS⟩
  refine EL.quick 1 [0, 1, 10] [(0, .int .i32 a3), (1, .int .i32 a4), (10, .bool (!(t50)))] (by kernel_rfl) ?_
  refine EL.done (by kernel_rfl) ?_
  refine EQ.code ?_
  refine EW.condQ (b := !(t50)) (o := (.tmp 10)) (x := C10.r.l.r.l) (y := C10.r.l.r.r) (t50 = true) (false) (by kernel_rfl) (by kernel_rfl) (by constructor <;> intro h <;> simp [h]) (fun h52 => ?_) (fun h52 => ?_)
  · rw [if_pos h52] at H
    refine EW.skip (by kernel_rfl) ?_
    refine EQ.code ?_
    refine EW.seq (x := C10.r.r.l) (y := C10.r.r.r) (by kernel_rfl) ?_
    refine EW.region (id := 3) (ops := C10.r.r.l.ops) (by kernel_rfl) ?_
    refine EL.quick 2 [0, 1, 12, 13] [(0, .int .i32 a3), (1, .int .i32 a4), (12, .int .i32 a3), (13, .int .i32 a4)] (by kernel_rfl) ?_
    obtain ⟨t56, t57, hc58, H⟩ := b2_out H
    refine EL.of (EO.callD 30 [.int .i32 a3, .int .i32 a4] _ 14 (by kernel_rfl) (by kernel_rfl) (by kernel_rfl) (word_Div.calls hc58 hS) ?_)
    rintro v w ⟨rfl, hS⟩
    refine EL.quick 5 [0, 1, 5, 6] [(0, .int .i32 a3), (1, .int .i32 a4), (5, .int .i32 t56), (6, .bool (t57))] (by kernel_rfl) ?_
    refine EL.done (by kernel_rfl) ?_
    refine EQ.code ?_
    refine EW.seq (x := C10.r.r.r.l) (y := C10.r.r.r.r) (by kernel_rfl) ?_
    refine EW.seq (x := C10.r.r.r.l.l) (y := C10.r.r.r.l.r) (by kernel_rfl) ?_
    refine EW.region (id := 4) (ops := C10.r.r.r.l.l.ops) (by kernel_rfl) ?_
    refine EL.quick 2 [0, 1, 5, 6, 18] [(0, .int .i32 a3), (1, .int .i32 a4), (5, .int .i32 t56), (6, .bool (t57)), (18, .bool (decide (a4 = 0)))] (by kernel_rfl) ?_
    refine EL.done (by kernel_rfl) ?_
    refine EQ.code ?_
    refine EW.condP (o := (.tmp 18)) (x := C10.r.r.r.l.r.l) (y := C10.r.r.r.l.r.r) (a4 = 0) (by kernel_rfl) (by kernel_rfl) (fun h61 => ?_) (fun h61 => ?_)
    · rw [if_pos h61] at H
      refine EW.seq (x := C10.r.r.r.l.r.l.l) (y := C10.r.r.r.l.r.l.r) (by kernel_rfl) ?_
      refine EW.region (id := 5) (ops := C10.r.r.r.l.r.l.l.ops) (by kernel_rfl) ?_
      refine EL.quick 3 [5, 21] [(5, .int .i32 t56), (21, .bool (!(t57)))] (by kernel_rfl) ?_
      by_cases h62 : t57 = true
      · rw [if_pos h62] at H
        refine EL.keep [5, 21] [(5, .int .i32 t56), (21, .bool (!(t57)))] (by kernel_rfl) ?_
        refine EL.as' [(5, .int .i32 t56), (21, .bool (false))] (by simp only [h62, Bool.not_true, Bool.not_false]) ?_
        refine EL.quick 4 [4] [(4, .bool (false))] (by kernel_rfl) ?_
        refine EL.done (by kernel_rfl) ?_
        refine EQ.code ?_
        refine EW.ret (by kernel_rfl) ?_
        refine EQ.ret ?_
        obtain rfl := Option.some.inj H
        exact EQ.leave (.bool (false)) (by kernel_rfl) ⟨_, rfl, rfl, (hS.re [] [] rfl (sub_self))⟩
      · rw [if_neg h62] at H
        refine EL.keep [5, 21] [(5, .int .i32 t56), (21, .bool (!(t57)))] (by kernel_rfl) ?_
        refine EL.as' [(5, .int .i32 t56), (21, .bool (true))] (by simp only [(Bool.eq_false_iff.2 h62), Bool.not_true, Bool.not_false]) ?_
        refine EL.quick 4 [4] [(4, .bool (decide (t56 = 0)))] (by kernel_rfl) ?_
        refine EL.done (by kernel_rfl) ?_
        refine EQ.code ?_
        refine EW.ret (by kernel_rfl) ?_
        refine EQ.ret ?_
        obtain rfl := Option.some.inj H
        exact EQ.leave (.bool (decide (t56 = 0))) (by kernel_rfl) ⟨_, rfl, rfl, (hS.re [] [] rfl (sub_self))⟩
    · rw [if_neg h61] at H
      refine EW.skip (by kernel_rfl) ?_
      refine EQ.code ?_
      refine EW.seq (x := C10.r.r.r.r.l) (y := C10.r.r.r.r.r) (by kernel_rfl) ?_
      refine EW.region (id := 6) (ops := C10.r.r.r.r.l.ops) (by kernel_rfl) ?_
      refine EL.quick 3 [0, 1, 6, 25, 26, 27] [(0, .int .i32 a3), (1, .int .i32 a4), (6, .bool (t57)), (25, .int .i32 a3), (26, .int .i32 t56), (27, .int .i32 a4)] (by kernel_rfl) ?_
      obtain ⟨t67, hc68, H⟩ := b1_out H
      refine EL.of (EO.callD 34 [.int .i32 t56, .int .i32 a4] _ 28 (by kernel_rfl) (by kernel_rfl) (by kernel_rfl) (word_Mul.calls hc68 hS) ?_)
      rintro v w ⟨rfl, hS⟩
      obtain ⟨t69, hc70, H⟩ := b1_out H
      refine EL.of (EO.callD 33 [.int .i32 a3, .int .i32 t67] _ 29 (by kernel_rfl) (by kernel_rfl) (by kernel_rfl) (word_Sub.calls hc70 hS) ?_)
      rintro v w ⟨rfl, hS⟩
      refine EL.quick 1 [0, 1, 6, 7] [(0, .int .i32 a3), (1, .int .i32 a4), (6, .bool (t57)), (7, .int .i32 t69)] (by kernel_rfl) ?_
      refine EL.done (by kernel_rfl) ?_
      refine EQ.code ?_
      refine EW.seq (x := C10.r.r.r.r.r.l) (y := C10.r.r.r.r.r.r) (by kernel_rfl) ?_
      refine EW.region (id := 7) (ops := C10.r.r.r.r.r.l.ops) (by kernel_rfl) ?_
      refine EL.quick 3 [0, 6, 7, 8] [(0, .int .i32 a3), (6, .bool (t57)), (7, .int .i32 t69), (8, .int .i64 (IntKind.i64.wrap a4))] (by kernel_rfl) ?_
      refine EL.done (by kernel_rfl) ?_
      refine EQ.code ?_
      obtain ⟨j74, hj74, H⟩ := lt_out H
      refine EW.cut (x := C10.r.r.r.r.r.r.l) (y := C10.r.r.r.r.r.r.r) (fun a w => ∃ x73 : Int, Sat 61 [(0, .int .i32 a3), (6, .bool (t57)), (7, .int .i32 t69), (8, .int .i64 x73)] a ∧ St B w (os) (rs) ∧ j74 x73 = some x42) (by kernel_rfl) ?_ (fun a w hI => ?_)
      · refine EW.seq (x := C10.r.r.r.r.r.r.l.l) (y := C10.r.r.r.r.r.r.l.r) (by kernel_rfl) ?_
        refine EW.region (id := 8) (ops := C10.r.r.r.r.r.r.l.l.ops) (by kernel_rfl) ?_
        refine EL.quick 2 [0, 6, 7, 8, 33] [(0, .int .i32 a3), (6, .bool (t57)), (7, .int .i32 t69), (8, .int .i64 (IntKind.i64.wrap a4)), (33, .bool (decide ((IntKind.i64.wrap a4) < 0)))] (by kernel_rfl) ?_
        refine EL.done (by kernel_rfl) ?_
        refine EQ.code ?_
        refine EW.condP (o := (.tmp 33)) (x := C10.r.r.r.r.r.r.l.r.l) (y := C10.r.r.r.r.r.r.l.r.r) ((IntKind.i64.wrap a4) < 0) (by kernel_rfl) (by kernel_rfl) (fun h75 => ?_) (fun h75 => ?_)
        · rw [if_pos h75] at H
          refine EW.region (id := 9) (ops := C10.r.r.r.r.r.r.l.r.l.ops) (by kernel_rfl) ?_
          refine EL.quick 3 [0, 6, 7, 8] [(0, .int .i32 a3), (6, .bool (t57)), (7, .int .i32 t69), (8, .int .i64 (IntKind.i64.wrap (0 - (IntKind.i64.wrap a4))))] (by kernel_rfl) ?_
          refine EL.done (by kernel_rfl) ?_
          refine EQ.to ?_
          refine EQ.keep [0, 6, 7, 8] [(0, .int .i32 a3), (6, .bool (t57)), (7, .int .i32 t69), (8, .int .i64 (IntKind.i64.wrap (0 - (IntKind.i64.wrap a4))))] (by kernel_rfl) ?_
          exact fun a ha => ⟨IntKind.i64.wrap (0 - (IntKind.i64.wrap a4)), ha, (hS.re [] [] rfl (sub_self)), H⟩
        · rw [if_neg h75] at H
          refine EW.skip (by kernel_rfl) ?_
          refine EQ.to ?_
          refine EQ.keep [0, 6, 7, 8] [(0, .int .i32 a3), (6, .bool (t57)), (7, .int .i32 t69), (8, .int .i64 (IntKind.i64.wrap a4))] (by kernel_rfl) ?_
          exact fun a ha => ⟨IntKind.i64.wrap a4, ha, (hS.re [] [] rfl (sub_self)), H⟩
      · obtain ⟨x73, ha, hS, H⟩ := hI
        rw [hj74] at H
        (try dsimp only at H)
        refine EW.at ?_ a ha
        clear ha a
        refine EW.seq (x := C10.r.r.r.r.r.r.r.l) (y := C10.r.r.r.r.r.r.r.r) (by kernel_rfl) ?_
        refine EW.region (id := 10) (ops := C10.r.r.r.r.r.r.r.l.ops) (by kernel_rfl) ?_
        refine EL.quick 2 [0, 7, 8, 37] [(0, .int .i32 a3), (7, .int .i32 t69), (8, .int .i64 x73), (37, .bool (t57))] (by kernel_rfl) ?_
        by_cases h76 : t57 = true
        · rw [if_pos h76] at H
          refine EL.keep [0, 7, 8, 37] [(0, .int .i32 a3), (7, .int .i32 t69), (8, .int .i64 x73), (37, .bool (t57))] (by kernel_rfl) ?_
          refine EL.as' [(0, .int .i32 a3), (7, .int .i32 t69), (8, .int .i64 x73), (37, .bool (true))] (by simp only [h76, Bool.not_true, Bool.not_false]) ?_
          refine EL.quick 6 [0, 7, 8, 43] [(0, .int .i32 a3), (7, .int .i32 t69), (8, .int .i64 x73), (43, .bool (decide ((IntKind.i64.wrap t69) < x73)))] (by kernel_rfl) ?_
          by_cases h77 : (IntKind.i64.wrap t69) < x73
          · rw [if_pos h77] at H
            refine EL.keep [0, 7, 8, 43] [(0, .int .i32 a3), (7, .int .i32 t69), (8, .int .i64 x73), (43, .bool (decide ((IntKind.i64.wrap t69) < x73)))] (by kernel_rfl) ?_
            refine EL.as' [(0, .int .i32 a3), (7, .int .i32 t69), (8, .int .i64 x73), (43, .bool (true))] (by simp only [dec_t h77, Bool.not_true, Bool.not_false]) ?_
            refine EL.quick 7 [0, 7, 50] [(0, .int .i32 a3), (7, .int .i32 t69), (50, .bool (decide ((IntKind.i64.wrap (0 - (IntKind.i64.wrap t69))) < x73)))] (by kernel_rfl) ?_
            by_cases h78 : (IntKind.i64.wrap (0 - (IntKind.i64.wrap t69))) < x73
            · rw [if_pos h78] at H
              refine EL.keep [0, 7, 50] [(0, .int .i32 a3), (7, .int .i32 t69), (50, .bool (decide ((IntKind.i64.wrap (0 - (IntKind.i64.wrap t69))) < x73)))] (by kernel_rfl) ?_
              refine EL.as' [(0, .int .i32 a3), (7, .int .i32 t69), (50, .bool (true))] (by simp only [dec_t h78, Bool.not_true, Bool.not_false]) ?_
              refine EL.quick 3 [0, 7, 50, 53] [(0, .int .i32 a3), (7, .int .i32 t69), (50, .bool (true)), (53, .bool (decide (t69 = 0)))] (by kernel_rfl) ?_
              by_cases h79 : t69 = 0
              · rw [if_pos h79] at H
                refine EL.keep [0, 7, 50, 53] [(0, .int .i32 a3), (7, .int .i32 t69), (50, .bool (true)), (53, .bool (decide (t69 = 0)))] (by kernel_rfl) ?_
                refine EL.as' [(0, .int .i32 a3), (7, .int .i32 t69), (50, .bool (true)), (53, .bool (true))] (by simp only [dec_t h79, Bool.not_true, Bool.not_false]) ?_
                refine EL.quick 8 [4] [(4, .bool (true))] (by kernel_rfl) ?_
                refine EL.done (by kernel_rfl) ?_
                refine EQ.code ?_
                refine EW.ret (by kernel_rfl) ?_
                obtain rfl := Option.some.inj H
                exact EQ.leave (.bool (true)) (by kernel_rfl) ⟨_, rfl, rfl, (hS.re [] [] rfl (sub_self))⟩
              · rw [if_neg h79] at H
                refine EL.keep [0, 7, 50, 53] [(0, .int .i32 a3), (7, .int .i32 t69), (50, .bool (true)), (53, .bool (decide (t69 = 0)))] (by kernel_rfl) ?_
                refine EL.as' [(0, .int .i32 a3), (7, .int .i32 t69), (50, .bool (true)), (53, .bool (false))] (by simp only [dec_f h79, Bool.not_true, Bool.not_false]) ?_
                refine EL.quick 8 [4] [(4, .bool (((decide (t69 < 0)) == (decide (a3 < 0)))))] (by kernel_rfl) ?_
                refine EL.done (by kernel_rfl) ?_
                refine EQ.code ?_
                refine EW.ret (by kernel_rfl) ?_
                obtain rfl := Option.some.inj H
                exact EQ.leave (.bool (((decide (t69 < 0)) == (decide (a3 < 0))))) (by kernel_rfl) ⟨_, rfl, rfl, (hS.re [] [] rfl (sub_self))⟩
            · rw [if_neg h78] at H
              refine EL.keep [0, 7, 50] [(0, .int .i32 a3), (7, .int .i32 t69), (50, .bool (decide ((IntKind.i64.wrap (0 - (IntKind.i64.wrap t69))) < x73)))] (by kernel_rfl) ?_
              refine EL.as' [(0, .int .i32 a3), (7, .int .i32 t69), (50, .bool (false))] (by simp only [dec_f h78, Bool.not_true, Bool.not_false]) ?_
              refine EL.quick 11 [4] [(4, .bool (false))] (by kernel_rfl) ?_
              refine EL.done (by kernel_rfl) ?_
              refine EQ.code ?_
              refine EW.ret (by kernel_rfl) ?_
              obtain rfl := Option.some.inj H
              exact EQ.leave (.bool (false)) (by kernel_rfl) ⟨_, rfl, rfl, (hS.re [] [] rfl (sub_self))⟩
          · rw [if_neg h77] at H
            refine EL.keep [0, 7, 8, 43] [(0, .int .i32 a3), (7, .int .i32 t69), (8, .int .i64 x73), (43, .bool (decide ((IntKind.i64.wrap t69) < x73)))] (by kernel_rfl) ?_
            refine EL.as' [(0, .int .i32 a3), (7, .int .i32 t69), (8, .int .i64 x73), (43, .bool (false))] (by simp only [dec_f h77, Bool.not_true, Bool.not_false]) ?_
            refine EL.quick 18 [4] [(4, .bool (false))] (by kernel_rfl) ?_
            refine EL.done (by kernel_rfl) ?_
            refine EQ.code ?_
            refine EW.ret (by kernel_rfl) ?_
            obtain rfl := Option.some.inj H
            exact EQ.leave (.bool (false)) (by kernel_rfl) ⟨_, rfl, rfl, (hS.re [] [] rfl (sub_self))⟩
        · rw [if_neg h76] at H
          refine EL.keep [0, 7, 8, 37] [(0, .int .i32 a3), (7, .int .i32 t69), (8, .int .i64 x73), (37, .bool (t57))] (by kernel_rfl) ?_
          refine EL.as' [(0, .int .i32 a3), (7, .int .i32 t69), (8, .int .i64 x73), (37, .bool (false))] (by simp only [(Bool.eq_false_iff.2 h76), Bool.not_true, Bool.not_false]) ?_
          refine EL.quick 24 [4] [(4, .bool (false))] (by kernel_rfl) ?_
          refine EL.done (by kernel_rfl) ?_
          refine EQ.code ?_
          refine EW.ret (by kernel_rfl) ?_
          obtain rfl := Option.some.inj H
          exact EQ.leave (.bool (false)) (by kernel_rfl) ⟨_, rfl, rfl, (hS.re [] [] rfl (sub_self))⟩
  · rw [if_neg h52] at H
    refine EW.seq (x := C10.r.l.r.l.l) (y := C10.r.l.r.l.r) (by kernel_rfl) ?_
    refine EW.region (id := 2) (ops := C10.r.l.r.l.l.ops) (by kernel_rfl) ?_
    refine EL.quick 1 [4] [(4, .bool (false))] (by kernel_rfl) ?_
    refine EL.done (by kernel_rfl) ?_
    refine EQ.code ?_
    refine EW.ret (by kernel_rfl) ?_
    refine EQ.ret ?_
    obtain rfl := Option.some.inj H
    exact EQ.leave (.bool (false)) (by kernel_rfl) ⟨_, rfl, rfl, (hS.re [] [] rfl (sub_self))⟩

def confidantlaw9_WordDivides.Pure : Prop := ∀ (a3 : Int) (a4 : Int), (Lit.int .i32 a3).wf = true → (Lit.int .i32 a4).wf = true → ∃ K, confidantlaw9_WordDivides.f K a3 a4 = some true

noncomputable def C11 : Code := bodyOf Try.f11

/-! ### confidant/confidantlaw9.WordOrders: function 11 -/
def confidantlaw9_WordOrders.f (K : Nat) (a4 : Int) (a5 : Int) (a6 : Int) : Option Bool := b1 (confidantlaw9_known.f K) fun (t67 : Bool) => (if t67 = true then (b1 (word_Less.f K a4 a5) fun (t70 : Int) => (b1 (word_Less.f K a5 a4) fun (t72 : Int) => (b1 (word_Eq.f K a4 a5) fun (t74 : Int) => (if (IntKind.i32.wrap ((IntKind.i32.wrap (t70 + t72)) + t74)) = 1 then (b1 (word_Less.f K a4 a4) fun (t77 : Int) => (if t77 = 0 then (b1 (word_Eq.f K a4 a4) fun (t80 : Int) => (if t80 = 1 then (b1 (word_Add.f K a4 a5) fun (t83 : Int) => (b1 (word_Add.f K a5 a4) fun (t85 : Int) => (if t83 = t85 then (b1 (word_Add.f K a4 a5) fun (t88 : Int) => (b1 (word_Add.f K t88 a6) fun (t90 : Int) => (b1 (word_Add.f K a5 a6) fun (t92 : Int) => (b1 (word_Add.f K a4 t92) fun (t94 : Int) => (if t90 = t94 then (b1 (word_Add.f K a4 a5) fun (t97 : Int) => (b1 (word_Sub.f K t97 a5) fun (t99 : Int) => (if t99 = a4 then (b1 (word_Add.f K a5 a6) fun (t102 : Int) => (b1 (word_Mul.f K a4 t102) fun (t104 : Int) => (b1 (word_Mul.f K a4 a5) fun (t106 : Int) => (b1 (word_Mul.f K a4 a6) fun (t108 : Int) => (b1 (word_Add.f K t106 t108) fun (t110 : Int) => (some (decide (t104 = t110)))))))) else (some false)))) else (some false)))))) else (some false)))) else (some false))) else (some false))) else (some false))))) else (some false))
set_option maxRecDepth 100000 in
theorem confidantlaw9_WordOrders.calls {K : Nat} {a4 : Int} {a5 : Int} {a6 : Int} {x59 : Bool} {B w : World} {os : List Ass} {rs : List Ro} (H : confidantlaw9_WordOrders.f K a4 a5 a6 = some x59) (hS : St B w (os) (rs)) :
    Calls Try.prog 11 [.int .i32 a4, .int .i32 a5, .int .i32 a6].toArray w (fun en w' => ∃ v, en = .returned v ∧ v = .bool (x59) ∧ St B w' (os) (rs)) := by
  unfold confidantlaw9_WordOrders.f at H
  refine calls_of_EW (args := [.int .i32 a4, .int .i32 a5, .int .i32 a6]) (c := C11) 79 Try.func11 (by kernel_rfl) (by kernel_rfl) (by kernel_rfl) ?_
  refine EW.seq (x := C11.l) (y := C11.r) (by kernel_rfl) ?_
  refine EW.region (id := 0) (ops := C11.l.ops) (by kernel_rfl) ?_
  refine EL.quick 1 [0, 1, 2] [(0, .int .i32 a4), (1, .int .i32 a5), (2, .int .i32 a6)] (by kernel_rfl) ?_
  refine EL.done (by kernel_rfl) ?_
  refine EQ.code ?_
  refine EW.seq (x := C11.r.l) (y := C11.r.r) (by kernel_rfl) ?_
  refine EW.seq (x := C11.r.l.l) (y := C11.r.l.r) (by kernel_rfl) ?_
  refine EW.region (id := 1) (ops := C11.r.l.l.ops) (by kernel_rfl) ?_
  obtain ⟨t67, hc68, H⟩ := b1_out H
  refine EL.of (EO.callD 29 [] _ 7 (by kernel_rfl) (by kernel_rfl) (by kernel_rfl) (confidantlaw9_known.calls hc68 hS) ?_)
  rintro v w ⟨rfl, hS⟩
  refine EL.quick 1 [0, 1, 2, 8] [(0, .int .i32 a4), (1, .int .i32 a5), (2, .int .i32 a6), (8, .bool (!(t67)))] (by kernel_rfl) ?_
  refine EL.done (by kernel_rfl) ?_
  refine EQ.code ?_
  refine EW.condQ (b := !(t67)) (o := (.tmp 8)) (x := C11.r.l.r.l) (y := C11.r.l.r.r) (t67 = true) (false) (by kernel_rfl) (by kernel_rfl) (by constructor <;> intro h <;> simp [h]) (fun h69 => ?_) (fun h69 => ?_)
  · rw [if_pos h69] at H
    refine EW.skip (by kernel_rfl) ?_
    refine EQ.code ?_
    refine EW.seq (x := C11.r.r.l) (y := C11.r.r.r) (by kernel_rfl) ?_
    refine EW.region (id := 3) (ops := C11.r.r.l.ops) (by kernel_rfl) ?_
    refine EL.quick 2 [0, 1, 2, 9, 10] [(0, .int .i32 a4), (1, .int .i32 a5), (2, .int .i32 a6), (9, .int .i32 a4), (10, .int .i32 a5)] (by kernel_rfl) ?_
    obtain ⟨t70, hc71, H⟩ := b1_out H
    refine EL.of (EO.callD 35 [.int .i32 a4, .int .i32 a5] _ 11 (by kernel_rfl) (by kernel_rfl) (by kernel_rfl) (word_Less.calls hc71 hS) ?_)
    rintro v w ⟨rfl, hS⟩
    refine EL.quick 2 [0, 1, 2, 11, 12, 13] [(0, .int .i32 a4), (1, .int .i32 a5), (2, .int .i32 a6), (11, .int .i32 t70), (12, .int .i32 a5), (13, .int .i32 a4)] (by kernel_rfl) ?_
    obtain ⟨t72, hc73, H⟩ := b1_out H
    refine EL.of (EO.callD 35 [.int .i32 a5, .int .i32 a4] _ 14 (by kernel_rfl) (by kernel_rfl) (by kernel_rfl) (word_Less.calls hc73 hS) ?_)
    rintro v w ⟨rfl, hS⟩
    refine EL.quick 3 [0, 1, 2, 15, 16, 17] [(0, .int .i32 a4), (1, .int .i32 a5), (2, .int .i32 a6), (15, .int .i32 (IntKind.i32.wrap (t70 + t72))), (16, .int .i32 a4), (17, .int .i32 a5)] (by kernel_rfl) ?_
    obtain ⟨t74, hc75, H⟩ := b1_out H
    refine EL.of (EO.callD 37 [.int .i32 a4, .int .i32 a5] _ 18 (by kernel_rfl) (by kernel_rfl) (by kernel_rfl) (word_Eq.calls hc75 hS) ?_)
    rintro v w ⟨rfl, hS⟩
    refine EL.quick 3 [0, 1, 2, 21] [(0, .int .i32 a4), (1, .int .i32 a5), (2, .int .i32 a6), (21, .bool (decide ((IntKind.i32.wrap ((IntKind.i32.wrap (t70 + t72)) + t74)) = 1)))] (by kernel_rfl) ?_
    by_cases h76 : (IntKind.i32.wrap ((IntKind.i32.wrap (t70 + t72)) + t74)) = 1
    · rw [if_pos h76] at H
      refine EL.keep [0, 1, 2, 21] [(0, .int .i32 a4), (1, .int .i32 a5), (2, .int .i32 a6), (21, .bool (decide ((IntKind.i32.wrap ((IntKind.i32.wrap (t70 + t72)) + t74)) = 1)))] (by kernel_rfl) ?_
      refine EL.as' [(0, .int .i32 a4), (1, .int .i32 a5), (2, .int .i32 a6), (21, .bool (true))] (by simp only [dec_t h76, Bool.not_true, Bool.not_false]) ?_
      refine EL.quick 2 [0, 1, 2, 21, 22, 23] [(0, .int .i32 a4), (1, .int .i32 a5), (2, .int .i32 a6), (21, .bool (true)), (22, .int .i32 a4), (23, .int .i32 a4)] (by kernel_rfl) ?_
      obtain ⟨t77, hc78, H⟩ := b1_out H
      refine EL.of (EO.callD 35 [.int .i32 a4, .int .i32 a4] _ 24 (by kernel_rfl) (by kernel_rfl) (by kernel_rfl) (word_Less.calls hc78 hS) ?_)
      rintro v w ⟨rfl, hS⟩
      refine EL.quick 3 [0, 1, 2, 27] [(0, .int .i32 a4), (1, .int .i32 a5), (2, .int .i32 a6), (27, .bool (decide (t77 = 0)))] (by kernel_rfl) ?_
      by_cases h79 : t77 = 0
      · rw [if_pos h79] at H
        refine EL.keep [0, 1, 2, 27] [(0, .int .i32 a4), (1, .int .i32 a5), (2, .int .i32 a6), (27, .bool (decide (t77 = 0)))] (by kernel_rfl) ?_
        refine EL.as' [(0, .int .i32 a4), (1, .int .i32 a5), (2, .int .i32 a6), (27, .bool (true))] (by simp only [dec_t h79, Bool.not_true, Bool.not_false]) ?_
        refine EL.quick 2 [0, 1, 2, 27, 28, 29] [(0, .int .i32 a4), (1, .int .i32 a5), (2, .int .i32 a6), (27, .bool (true)), (28, .int .i32 a4), (29, .int .i32 a4)] (by kernel_rfl) ?_
        obtain ⟨t80, hc81, H⟩ := b1_out H
        refine EL.of (EO.callD 37 [.int .i32 a4, .int .i32 a4] _ 30 (by kernel_rfl) (by kernel_rfl) (by kernel_rfl) (word_Eq.calls hc81 hS) ?_)
        rintro v w ⟨rfl, hS⟩
        refine EL.quick 3 [0, 1, 2, 33] [(0, .int .i32 a4), (1, .int .i32 a5), (2, .int .i32 a6), (33, .bool (decide (t80 = 1)))] (by kernel_rfl) ?_
        by_cases h82 : t80 = 1
        · rw [if_pos h82] at H
          refine EL.keep [0, 1, 2, 33] [(0, .int .i32 a4), (1, .int .i32 a5), (2, .int .i32 a6), (33, .bool (decide (t80 = 1)))] (by kernel_rfl) ?_
          refine EL.as' [(0, .int .i32 a4), (1, .int .i32 a5), (2, .int .i32 a6), (33, .bool (true))] (by simp only [dec_t h82, Bool.not_true, Bool.not_false]) ?_
          refine EL.quick 2 [0, 1, 2, 33, 34, 35] [(0, .int .i32 a4), (1, .int .i32 a5), (2, .int .i32 a6), (33, .bool (true)), (34, .int .i32 a4), (35, .int .i32 a5)] (by kernel_rfl) ?_
          obtain ⟨t83, hc84, H⟩ := b1_out H
          refine EL.of (EO.callD 32 [.int .i32 a4, .int .i32 a5] _ 36 (by kernel_rfl) (by kernel_rfl) (by kernel_rfl) (word_Add.calls hc84 hS) ?_)
          rintro v w ⟨rfl, hS⟩
          refine EL.quick 2 [0, 1, 2, 33, 36, 37, 38] [(0, .int .i32 a4), (1, .int .i32 a5), (2, .int .i32 a6), (33, .bool (true)), (36, .int .i32 t83), (37, .int .i32 a5), (38, .int .i32 a4)] (by kernel_rfl) ?_
          obtain ⟨t85, hc86, H⟩ := b1_out H
          refine EL.of (EO.callD 32 [.int .i32 a5, .int .i32 a4] _ 39 (by kernel_rfl) (by kernel_rfl) (by kernel_rfl) (word_Add.calls hc86 hS) ?_)
          rintro v w ⟨rfl, hS⟩
          refine EL.quick 3 [0, 1, 2, 42] [(0, .int .i32 a4), (1, .int .i32 a5), (2, .int .i32 a6), (42, .bool (decide (t83 = t85)))] (by kernel_rfl) ?_
          by_cases h87 : t83 = t85
          · rw [if_pos h87] at H
            refine EL.keep [0, 1, 2, 42] [(0, .int .i32 a4), (1, .int .i32 a5), (2, .int .i32 a6), (42, .bool (decide (t83 = t85)))] (by kernel_rfl) ?_
            refine EL.as' [(0, .int .i32 a4), (1, .int .i32 a5), (2, .int .i32 a6), (42, .bool (true))] (by simp only [dec_t h87, Bool.not_true, Bool.not_false]) ?_
            refine EL.quick 2 [0, 1, 2, 42, 43, 44] [(0, .int .i32 a4), (1, .int .i32 a5), (2, .int .i32 a6), (42, .bool (true)), (43, .int .i32 a4), (44, .int .i32 a5)] (by kernel_rfl) ?_
            obtain ⟨t88, hc89, H⟩ := b1_out H
            refine EL.of (EO.callD 32 [.int .i32 a4, .int .i32 a5] _ 45 (by kernel_rfl) (by kernel_rfl) (by kernel_rfl) (word_Add.calls hc89 hS) ?_)
            rintro v w ⟨rfl, hS⟩
            refine EL.quick 1 [0, 1, 2, 42, 45, 46] [(0, .int .i32 a4), (1, .int .i32 a5), (2, .int .i32 a6), (42, .bool (true)), (45, .int .i32 t88), (46, .int .i32 a6)] (by kernel_rfl) ?_
            obtain ⟨t90, hc91, H⟩ := b1_out H
            refine EL.of (EO.callD 32 [.int .i32 t88, .int .i32 a6] _ 47 (by kernel_rfl) (by kernel_rfl) (by kernel_rfl) (word_Add.calls hc91 hS) ?_)
            rintro v w ⟨rfl, hS⟩
            refine EL.quick 3 [0, 1, 2, 42, 47, 48, 49, 50] [(0, .int .i32 a4), (1, .int .i32 a5), (2, .int .i32 a6), (42, .bool (true)), (47, .int .i32 t90), (48, .int .i32 a4), (49, .int .i32 a5), (50, .int .i32 a6)] (by kernel_rfl) ?_
            obtain ⟨t92, hc93, H⟩ := b1_out H
            refine EL.of (EO.callD 32 [.int .i32 a5, .int .i32 a6] _ 51 (by kernel_rfl) (by kernel_rfl) (by kernel_rfl) (word_Add.calls hc93 hS) ?_)
            rintro v w ⟨rfl, hS⟩
            obtain ⟨t94, hc95, H⟩ := b1_out H
            refine EL.of (EO.callD 32 [.int .i32 a4, .int .i32 t92] _ 52 (by kernel_rfl) (by kernel_rfl) (by kernel_rfl) (word_Add.calls hc95 hS) ?_)
            rintro v w ⟨rfl, hS⟩
            refine EL.quick 3 [0, 1, 2, 55] [(0, .int .i32 a4), (1, .int .i32 a5), (2, .int .i32 a6), (55, .bool (decide (t90 = t94)))] (by kernel_rfl) ?_
            by_cases h96 : t90 = t94
            · rw [if_pos h96] at H
              refine EL.keep [0, 1, 2, 55] [(0, .int .i32 a4), (1, .int .i32 a5), (2, .int .i32 a6), (55, .bool (decide (t90 = t94)))] (by kernel_rfl) ?_
              refine EL.as' [(0, .int .i32 a4), (1, .int .i32 a5), (2, .int .i32 a6), (55, .bool (true))] (by simp only [dec_t h96, Bool.not_true, Bool.not_false]) ?_
              refine EL.quick 2 [0, 1, 2, 55, 56, 57] [(0, .int .i32 a4), (1, .int .i32 a5), (2, .int .i32 a6), (55, .bool (true)), (56, .int .i32 a4), (57, .int .i32 a5)] (by kernel_rfl) ?_
              obtain ⟨t97, hc98, H⟩ := b1_out H
              refine EL.of (EO.callD 32 [.int .i32 a4, .int .i32 a5] _ 58 (by kernel_rfl) (by kernel_rfl) (by kernel_rfl) (word_Add.calls hc98 hS) ?_)
              rintro v w ⟨rfl, hS⟩
              refine EL.quick 1 [0, 1, 2, 55, 58, 59] [(0, .int .i32 a4), (1, .int .i32 a5), (2, .int .i32 a6), (55, .bool (true)), (58, .int .i32 t97), (59, .int .i32 a5)] (by kernel_rfl) ?_
              obtain ⟨t99, hc100, H⟩ := b1_out H
              refine EL.of (EO.callD 33 [.int .i32 t97, .int .i32 a5] _ 60 (by kernel_rfl) (by kernel_rfl) (by kernel_rfl) (word_Sub.calls hc100 hS) ?_)
              rintro v w ⟨rfl, hS⟩
              refine EL.quick 4 [0, 1, 2, 64] [(0, .int .i32 a4), (1, .int .i32 a5), (2, .int .i32 a6), (64, .bool (decide (t99 = a4)))] (by kernel_rfl) ?_
              by_cases h101 : t99 = a4
              · rw [if_pos h101] at H
                refine EL.keep [0, 1, 2, 64] [(0, .int .i32 a4), (1, .int .i32 a5), (2, .int .i32 a6), (64, .bool (decide (t99 = a4)))] (by kernel_rfl) ?_
                refine EL.as' [(0, .int .i32 a4), (1, .int .i32 a5), (2, .int .i32 a6), (64, .bool (true))] (by simp only [dec_t h101, Bool.not_true, Bool.not_false]) ?_
                refine EL.quick 3 [0, 1, 2, 64, 65, 66, 67] [(0, .int .i32 a4), (1, .int .i32 a5), (2, .int .i32 a6), (64, .bool (true)), (65, .int .i32 a4), (66, .int .i32 a5), (67, .int .i32 a6)] (by kernel_rfl) ?_
                obtain ⟨t102, hc103, H⟩ := b1_out H
                refine EL.of (EO.callD 32 [.int .i32 a5, .int .i32 a6] _ 68 (by kernel_rfl) (by kernel_rfl) (by kernel_rfl) (word_Add.calls hc103 hS) ?_)
                rintro v w ⟨rfl, hS⟩
                obtain ⟨t104, hc105, H⟩ := b1_out H
                refine EL.of (EO.callD 34 [.int .i32 a4, .int .i32 t102] _ 69 (by kernel_rfl) (by kernel_rfl) (by kernel_rfl) (word_Mul.calls hc105 hS) ?_)
                rintro v w ⟨rfl, hS⟩
                refine EL.quick 2 [0, 2, 64, 69, 70, 71] [(0, .int .i32 a4), (2, .int .i32 a6), (64, .bool (true)), (69, .int .i32 t104), (70, .int .i32 a4), (71, .int .i32 a5)] (by kernel_rfl) ?_
                obtain ⟨t106, hc107, H⟩ := b1_out H
                refine EL.of (EO.callD 34 [.int .i32 a4, .int .i32 a5] _ 72 (by kernel_rfl) (by kernel_rfl) (by kernel_rfl) (word_Mul.calls hc107 hS) ?_)
                rintro v w ⟨rfl, hS⟩
                refine EL.quick 2 [64, 69, 72, 73, 74] [(64, .bool (true)), (69, .int .i32 t104), (72, .int .i32 t106), (73, .int .i32 a4), (74, .int .i32 a6)] (by kernel_rfl) ?_
                obtain ⟨t108, hc109, H⟩ := b1_out H
                refine EL.of (EO.callD 34 [.int .i32 a4, .int .i32 a6] _ 75 (by kernel_rfl) (by kernel_rfl) (by kernel_rfl) (word_Mul.calls hc109 hS) ?_)
                rintro v w ⟨rfl, hS⟩
                obtain ⟨t110, hc111, H⟩ := b1_out H
                refine EL.of (EO.callD 32 [.int .i32 t106, .int .i32 t108] _ 76 (by kernel_rfl) (by kernel_rfl) (by kernel_rfl) (word_Add.calls hc111 hS) ?_)
                rintro v w ⟨rfl, hS⟩
                refine EL.quick 3 [6] [(6, .bool (decide (t104 = t110)))] (by kernel_rfl) ?_
                refine EL.done (by kernel_rfl) ?_
                refine EQ.code ?_
                refine EW.ret (by kernel_rfl) ?_
                obtain rfl := Option.some.inj H
                exact EQ.leave (.bool (decide (t104 = t110))) (by kernel_rfl) ⟨_, rfl, rfl, (hS.re [] [] rfl (sub_self))⟩
              · rw [if_neg h101] at H
                refine EL.keep [0, 1, 2, 64] [(0, .int .i32 a4), (1, .int .i32 a5), (2, .int .i32 a6), (64, .bool (decide (t99 = a4)))] (by kernel_rfl) ?_
                refine EL.as' [(0, .int .i32 a4), (1, .int .i32 a5), (2, .int .i32 a6), (64, .bool (false))] (by simp only [dec_f h101, Bool.not_true, Bool.not_false]) ?_
                refine EL.quick 15 [6] [(6, .bool (false))] (by kernel_rfl) ?_
                refine EL.done (by kernel_rfl) ?_
                refine EQ.code ?_
                refine EW.ret (by kernel_rfl) ?_
                obtain rfl := Option.some.inj H
                exact EQ.leave (.bool (false)) (by kernel_rfl) ⟨_, rfl, rfl, (hS.re [] [] rfl (sub_self))⟩
            · rw [if_neg h96] at H
              refine EL.keep [0, 1, 2, 55] [(0, .int .i32 a4), (1, .int .i32 a5), (2, .int .i32 a6), (55, .bool (decide (t90 = t94)))] (by kernel_rfl) ?_
              refine EL.as' [(0, .int .i32 a4), (1, .int .i32 a5), (2, .int .i32 a6), (55, .bool (false))] (by simp only [dec_f h96, Bool.not_true, Bool.not_false]) ?_
              refine EL.quick 24 [6] [(6, .bool (false))] (by kernel_rfl) ?_
              refine EL.done (by kernel_rfl) ?_
              refine EQ.code ?_
              refine EW.ret (by kernel_rfl) ?_
              obtain rfl := Option.some.inj H
              exact EQ.leave (.bool (false)) (by kernel_rfl) ⟨_, rfl, rfl, (hS.re [] [] rfl (sub_self))⟩
          · rw [if_neg h87] at H
            refine EL.keep [0, 1, 2, 42] [(0, .int .i32 a4), (1, .int .i32 a5), (2, .int .i32 a6), (42, .bool (decide (t83 = t85)))] (by kernel_rfl) ?_
            refine EL.as' [(0, .int .i32 a4), (1, .int .i32 a5), (2, .int .i32 a6), (42, .bool (false))] (by simp only [dec_f h87, Bool.not_true, Bool.not_false]) ?_
            refine EL.quick 37 [6] [(6, .bool (false))] (by kernel_rfl) ?_
            refine EL.done (by kernel_rfl) ?_
            refine EQ.code ?_
            refine EW.ret (by kernel_rfl) ?_
            obtain rfl := Option.some.inj H
            exact EQ.leave (.bool (false)) (by kernel_rfl) ⟨_, rfl, rfl, (hS.re [] [] rfl (sub_self))⟩
        · rw [if_neg h82] at H
          refine EL.keep [0, 1, 2, 33] [(0, .int .i32 a4), (1, .int .i32 a5), (2, .int .i32 a6), (33, .bool (decide (t80 = 1)))] (by kernel_rfl) ?_
          refine EL.as' [(0, .int .i32 a4), (1, .int .i32 a5), (2, .int .i32 a6), (33, .bool (false))] (by simp only [dec_f h82, Bool.not_true, Bool.not_false]) ?_
          refine EL.quick 46 [6] [(6, .bool (false))] (by kernel_rfl) ?_
          refine EL.done (by kernel_rfl) ?_
          refine EQ.code ?_
          refine EW.ret (by kernel_rfl) ?_
          obtain rfl := Option.some.inj H
          exact EQ.leave (.bool (false)) (by kernel_rfl) ⟨_, rfl, rfl, (hS.re [] [] rfl (sub_self))⟩
      · rw [if_neg h79] at H
        refine EL.keep [0, 1, 2, 27] [(0, .int .i32 a4), (1, .int .i32 a5), (2, .int .i32 a6), (27, .bool (decide (t77 = 0)))] (by kernel_rfl) ?_
        refine EL.as' [(0, .int .i32 a4), (1, .int .i32 a5), (2, .int .i32 a6), (27, .bool (false))] (by simp only [dec_f h79, Bool.not_true, Bool.not_false]) ?_
        refine EL.quick 52 [6] [(6, .bool (false))] (by kernel_rfl) ?_
        refine EL.done (by kernel_rfl) ?_
        refine EQ.code ?_
        refine EW.ret (by kernel_rfl) ?_
        obtain rfl := Option.some.inj H
        exact EQ.leave (.bool (false)) (by kernel_rfl) ⟨_, rfl, rfl, (hS.re [] [] rfl (sub_self))⟩
    · rw [if_neg h76] at H
      refine EL.keep [0, 1, 2, 21] [(0, .int .i32 a4), (1, .int .i32 a5), (2, .int .i32 a6), (21, .bool (decide ((IntKind.i32.wrap ((IntKind.i32.wrap (t70 + t72)) + t74)) = 1)))] (by kernel_rfl) ?_
      refine EL.as' [(0, .int .i32 a4), (1, .int .i32 a5), (2, .int .i32 a6), (21, .bool (false))] (by simp only [dec_f h76, Bool.not_true, Bool.not_false]) ?_
      refine EL.quick 58 [6] [(6, .bool (false))] (by kernel_rfl) ?_
      refine EL.done (by kernel_rfl) ?_
      refine EQ.code ?_
      refine EW.ret (by kernel_rfl) ?_
      obtain rfl := Option.some.inj H
      exact EQ.leave (.bool (false)) (by kernel_rfl) ⟨_, rfl, rfl, (hS.re [] [] rfl (sub_self))⟩
  · rw [if_neg h69] at H
    refine EW.seq (x := C11.r.l.r.l.l) (y := C11.r.l.r.l.r) (by kernel_rfl) ?_
    refine EW.region (id := 2) (ops := C11.r.l.r.l.l.ops) (by kernel_rfl) ?_
    refine EL.quick 1 [6] [(6, .bool (false))] (by kernel_rfl) ?_
    refine EL.done (by kernel_rfl) ?_
    refine EQ.code ?_
    refine EW.ret (by kernel_rfl) ?_
    refine EQ.ret ?_
    obtain rfl := Option.some.inj H
    exact EQ.leave (.bool (false)) (by kernel_rfl) ⟨_, rfl, rfl, (hS.re [] [] rfl (sub_self))⟩

def confidantlaw9_WordOrders.Pure : Prop := ∀ (a4 : Int) (a5 : Int) (a6 : Int), (Lit.int .i32 a4).wf = true → (Lit.int .i32 a5).wf = true → (Lit.int .i32 a6).wf = true → ∃ K, confidantlaw9_WordOrders.f K a4 a5 a6 = some true

end Go.Proofs.Ytepokhmomojcmaa.G
