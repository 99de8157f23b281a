/- The law TraceTexts: whatever it is given it returns true. No condition beside the statement's own. -/
import Derived.Test.YtocdpimpkifdmaaDoorG6
import Derived.Test.YtocdpimpkifdmaaDoorG4
import Derived.Test.YtocdpimpkifdmaaDoorRows
import Derived.Test.YtocdpimpkifdmaaDoorPureTraceTexts
import Derived.Test.YtocdpimpkifdmaaDoorFwRow
import Derived.Test.YtocdpimpkifdmaaDoorLaid
import Derived.Test.YtocdpimpkifdmaaDoorTie
import Derived.Test.YtocdpimpkifdmaaDoorCards
import Derived.SevenTiedAt
namespace Go.Proofs.YtocdpimpkifdmaaDoor.traceTexts
open Go.ChangeShapes Go.WideShapes Go.ChangeAt Go.RowKit Go.Fw
open Go.ChangeMaps (open_string shut_string)
set_option linter.unusedVariables false
open Go.Proofs.YtocdpimpkifdmaaDoor.G
theorem own : ownKnob Tryd.prog.godebug = none := by kernel_rfl
theorem laidOut : laidOutB Tryd.prog = true := by kernel_rfl
set_option maxRecDepth 100000 in
theorem lifted (os : Os) (started : os.Started) (H : Type) (enc : TypeId × Value → H) :
    ReturnsInHanded {} Tryd.checked os 6 .any (fun w args => (Rows.traceTextsSpec.pre enc Tryd.prog Tryd.f6 [] false w args ∧ laidMetH Tryd.prog Laid.laidL w) ∧ sizedMet enc Tryd.prog Tryd.f6 (OpenSpec.ofChange Rows.traceTextsSpec) false w args) (Rows.traceTextsSpec.post enc Tryd.prog Tryd.f6 false true false false) := by
  refine returnsInHanded_of_change_and (C := Tryd.checked) (X := fun w _ => laidMetH Tryd.prog Laid.laidL w) (fun _ _ _ hh h => h.of_heap hh) own started (by kernel_rfl) Tryd.func6
    (ChangeSpec.witness_shaped (enc := enc) (C := Tryd.checked) (os := os) (X := fun w _ => laidMetH Tryd.prog Laid.laidL w) false (World.doorLaid Tryd.prog 400 os) #[.agg #[.int .u8 0, .int .u8 0, .int .u8 0, .int .u8 0], .agg #[.int .u8 0, .int .u8 0, .int .u8 0, .int .u8 0], .int .i32 0] 8 rfl (World.shaped_of_RefB (by kernel_rfl) (by kernel_rfl)) (by kernel_rfl) (by kernel_rfl) (by kernel_rfl) (Laid.door_met os _)) ?_
  intro W base args ds gs before hval0 hW hcnd hsz0 hL _
  have hsz : (DataW.weightsEach Tryd.prog (Tryd.f6.params.toList ++ Rows.traceTextsSpec.plain.varTypes Tryd.prog) (ds ++ gs)).all (· ≤ reachBytes) = true := hsz0
  have hval : ∀ (j : Nat) t v, Tryd.f6.params[j]? = some t → args[j]? = some v → Value.okWide Tryd.prog W .any base t v := hval0
  have hW' := hW
  obtain ⟨p, q, hA0, hV, rfl, hfz, hnd⟩ := hW
  have hA : DataW.TrodAll enc Tryd.prog W 0 (fun _ => true) true Tryd.f6.params.toList args.toList ds p := hA0
  rw [Tryd.params6] at hA hval hsz
  obtain ⟨v0, vs0, d0, ds0, p0, q0, hargs, rfl, rfl, h0, r0⟩ := trodAll_cons hA
  obtain ⟨v1, vs1, d1, ds1, p1, q1, rfl, rfl, rfl, h1, r1⟩ := trodAll_cons r0
  obtain ⟨v2, vs2, d2, ds2, p2, q2, rfl, rfl, rfl, h2, r2⟩ := trodAll_cons r1
  obtain ⟨rfl, rfl, rfl⟩ := trodAll_nil r2
  obtain rfl : args = #[v0, v1, v2] := by cases args; simp_all
  obtain ⟨rfl, rfl⟩ := trodVars_none hV
  obtain ⟨cs0, rfl, _⟩ := okWide_agg (.inr ⟨_, _, Tryd.underlying50⟩) (hval 0 50 v0 rfl rfl)
  have k0 := h0
  have lt0 : ∀ x ∈ p0, x.block < W.heap.size := by obtain ⟨m, hm⟩ := k0; exact DataW.trod_lt m _ _ _ hm
  obtain ⟨x0, hx0, ok0⟩ := Opens.arg oS50 h0 hsz (j := 0) (t := 50) rfl rfl
  have hx0 : kS50.rep W (fun b => b < W.heap.size) cs0.toList x0 := by simpa [Value.cells] using hx0
  obtain rfl : cs0 = (encS50 x0).toArray := Array.ext' (encS50_of _ _ _ _ hx0)
  obtain ⟨cs1, rfl, _⟩ := okWide_agg (.inr ⟨_, _, Tryd.underlying50⟩) (hval 1 50 v1 rfl rfl)
  have k1 := h1
  have lt1 : ∀ x ∈ p1, x.block < W.heap.size := by obtain ⟨m, hm⟩ := k1; exact DataW.trod_lt m _ _ _ hm
  obtain ⟨x1, hx1, ok1⟩ := Opens.arg oS50 h1 hsz (j := 1) (t := 50) rfl rfl
  have hx1 : kS50.rep W (fun b => b < W.heap.size) cs1.toList x1 := by simpa [Value.cells] using hx1
  obtain rfl : cs1 = (encS50 x1).toArray := Array.ext' (encS50_of _ _ _ _ hx1)
  obtain ⟨a2, rfl, rfl, rfl, w2⟩ := open_int Tryd.underlying21 (hval 2 21 v2 rfl rfl) h2
  clear hA0 hval0 hsz0 hsz
  obtain ⟨K, hK⟩ := Pure.TraceTexts x0.f0 x0.f1 x0.f2 x0.f3 x1.f0 x1.f1 x1.f2 x1.f3 a2 ok0.1 ok0.2.1 ok0.2.2.1 ok0.2.2.2.1 ok1.1 ok1.2.1 ok1.2.2.1 ok1.2.2.2.1 w2
  have hS : St W W [] [] := St.start W (by
    intro r hr
    simp at hr)
  have hC := G.confidantlaw23_TraceTexts.calls hK hS (Laid.glob hL)
  refine hC.mono fun e W' hq => ?_
  obtain ⟨v, rfl, rfl, hS'⟩ := hq
  have bel := hS'.below
  exact ⟨_, rfl, _, _, _, [], _, [], hW', trodAll_mk1 (shut_bool Tryd.underlying4 _), (trodAll_cons_mk (Below.trod laidOut (by kernel_rfl) (of_decide_eq_true (by kernel_rfl)) k0 bel lt0) (trodAll_cons_mk (Below.trod laidOut (by kernel_rfl) (of_decide_eq_true (by kernel_rfl)) k1 bel lt1) (trodAll_cons_mk (shut_int Tryd.underlying21 w2) trodAll_mk0))), rfl, bel.frame _, fun h => by cases h⟩
theorem over : Rows.traceTextsRow.holds Tryd.pinned (OpenSpec.ofChange Rows.traceTextsSpec) :=
  OpenClaim.holds_of_wide 6 Tryd.f6 rfl rfl rfl rfl rfl rfl rfl ⟨rfl, rfl, rfl, rfl, rfl⟩ rfl rfl rfl rfl rfl (by kernel_rfl) Tryd.func6 (by kernel_rfl)
    (of_decide_eq_true (by kernel_rfl)) (by unfold Func.isWrapper; first | (rw [if_pos (by decide +kernel)]; kernel_rfl) | (rw [if_neg (by decide +kernel)]; exact ⟨rfl, rfl⟩))
    (fun os started H enc _ => lifted os started H enc)
/-- the tied card -/
theorem proved : Rows.TraceTextsCardSaid :=
  Claim7.holds_tied_plain_at .later [] [.data, .data, .data, .listed, .data] true (true, "f13e8531806990144718f2101c0aabda52e7712596fd0025ef436dcbcf97dafc") true
    over (fun _ h => by cases h) (by kernel_rfl) (fun _ h => by cases h) traceTexts_row_tie rfl ⟨rfl, rfl⟩ (by kernel_rfl) rfl
    (fun f fn hf hfn => by
      obtain rfl : f = 6 := Option.some.inj ((show Tryd.prog.funcNamed "confidant/confidantlaw23.TraceTexts" = some 6 by kernel_rfl).symm.trans hf) |>.symm
      obtain rfl : fn = Tryd.f6 := (Option.some.inj (Tryd.func6.symm.trans hfn)).symm
      exact ⟨by kernel_rfl, fun j t ht => by
        rw [Tryd.params6] at ht
        have hm : t ∈ [50, 50, 21] := by simpa using Array.mem_of_getElem? ht
        have hall : ([50, 50, 21].all fun u => !Tryd.prog.wantsStandIn u) = true := by kernel_rfl
        exact (show Tryd.prog.wantsStandIn t = false by simpa using List.all_eq_true.1 hall t hm)⟩)
    (by kernel_rfl)
#print axioms proved
end Go.Proofs.YtocdpimpkifdmaaDoor.traceTexts
namespace Go.Proofs.YtocdpimpkifdmaaDoor
/-- the law, under a short name -/
theorem traceTexts_holds : Rows.TraceTextsCardSaid := traceTexts.proved
end Go.Proofs.YtocdpimpkifdmaaDoor
