/- The law ImageSames: whatever it is given it returns true. No condition beside the statement's own. -/
import Derived.Test.YtiilloijkbabbaaDoorG0
import Derived.Test.YtiilloijkbabbaaDoorG3
import Derived.Test.YtiilloijkbabbaaDoorRows
import Derived.Test.YtiilloijkbabbaaDoorPureImageSames
import Derived.Test.YtiilloijkbabbaaDoorFwRow
import Derived.Test.YtiilloijkbabbaaDoorLaid
import Derived.Test.YtiilloijkbabbaaDoorTie
import Derived.Test.YtiilloijkbabbaaDoorCards
import Derived.SevenTiedAt
namespace Go.Proofs.YtiilloijkbabbaaDoor.imageSames
open Go.ChangeShapes Go.WideShapes Go.ChangeAt Go.RowKit Go.Fw
open Go.ChangeMaps (open_string shut_string)
set_option linter.unusedVariables false
open Go.Proofs.YtiilloijkbabbaaDoor.G
theorem own : ownKnob Tryd.prog.godebug = none := by kernel_rfl
theorem laidOut : laidOutB Tryd.prog = true := by kernel_rfl
set_option maxRecDepth 100000 in
theorem lifted (os : Os) (started : os.Started) (H : Type) (enc : TypeId × Value → H) :
    ReturnsInHanded {} Tryd.checked os 4 .any (fun w args => (Rows.imageSamesSpec.pre enc Tryd.prog Tryd.f4 [] false w args ∧ laidMetH Tryd.prog Laid.laidL w) ∧ sizedMet enc Tryd.prog Tryd.f4 (OpenSpec.ofChange Rows.imageSamesSpec) false w args) (Rows.imageSamesSpec.post enc Tryd.prog Tryd.f4 false true false false) := by
  refine Fw.handed_shaped (C := Tryd.checked) (X := fun w _ => laidMetH Tryd.prog Laid.laidL w) (fun _ _ _ hh h => h.of_heap hh) own started (by kernel_rfl) Tryd.func4
    (ChangeSpec.witness_shaped (enc := enc) (C := Tryd.checked) (os := os) (X := fun w _ => laidMetH Tryd.prog Laid.laidL w) false (World.laidAll Tryd.prog os Laid.laidL) #[.slice none 0 0, .int .u8 0, .int .u8 0, .agg #[.int .i64 0, .int .i32 0]] 8 (World.laidAll_os _ _ _) (World.shaped_of_ZipB (by kernel_rfl) (by kernel_rfl)) (by kernel_rfl) (by kernel_rfl) (by kernel_rfl) (Laid.door_met os _)) ?_
  intro W base args ds gs before hval0 hW hcnd hsz0 hL hsh _
  have hsz : (DataW.weightsEach Tryd.prog (Tryd.f4.params.toList ++ Rows.imageSamesSpec.plain.varTypes Tryd.prog) (ds ++ gs)).all (· ≤ reachBytes) = true := hsz0
  have hval : ∀ (j : Nat) t v, Tryd.f4.params[j]? = some t → args[j]? = some v → Value.okWide Tryd.prog W .any base t v := hval0
  have hW' := hW
  obtain ⟨p, q, hA0, hV, rfl, hfz, hnd⟩ := hW
  have hA : DataW.TrodAll enc Tryd.prog W 0 (fun _ => true) true Tryd.f4.params.toList args.toList ds p := hA0
  rw [Tryd.params4] at hA hval hsz
  obtain ⟨v0, vs0, d0, ds0, p0, q0, hargs, rfl, rfl, h0, r0⟩ := trodAll_cons hA
  obtain ⟨v1, vs1, d1, ds1, p1, q1, rfl, rfl, rfl, h1, r1⟩ := trodAll_cons r0
  obtain ⟨v2, vs2, d2, ds2, p2, q2, rfl, rfl, rfl, h2, r2⟩ := trodAll_cons r1
  obtain ⟨v3, vs3, d3, ds3, p3, q3, rfl, rfl, rfl, h3, r3⟩ := trodAll_cons r2
  obtain ⟨rfl, rfl, rfl⟩ := trodAll_nil r3
  obtain rfl : args = #[v0, v1, v2, v3] := by cases args; simp_all
  obtain ⟨rfl, rfl⟩ := trodVars_none hV
  obtain ⟨a0, len0, cap0, rfl⟩ := okWide_slice Tryd.underlying28 (hval 0 28 v0 rfl rfl)
  have k0 := h0
  have lt0 : ∀ x ∈ p0, x.block < W.heap.size := by obtain ⟨m, hm⟩ := k0; exact DataW.trod_lt m _ _ _ hm
  obtain ⟨z0, w0⟩ : ∃ zs, IsRow .u8 W a0 len0 cap0 zs := by
    obtain ⟨fuel, hf⟩ := h0
    rcases open_ints Tryd.underlying28 Tryd.underlying5 (by kernel_rfl) hf with ⟨hcs, _⟩ | ⟨x, l, c, zs, hcs, _, hl, hm, hz, _, hcell, hwz⟩
    · simp [Value.cells] at hcs
      obtain ⟨rfl, rfl, rfl⟩ := hcs
      exact ⟨[], .inl ⟨rfl, rfl, rfl, rfl⟩⟩
    · simp [Value.cells] at hcs
      obtain ⟨rfl, rfl, rfl⟩ := hcs
      exact ⟨zs, .inr ⟨_, rfl, hl, hm, by simpa using hz, hcell, hwz⟩⟩
  have y0 : len0 * 1 ≤ 140737488351232 := sized_row hsz (j := 0) (t := 28) rfl rfl Tryd.underlying28 Tryd.underlying5 (by kernel_rfl) (by kernel_rfl) h0
  have e0 := w0.len
  obtain ⟨a1, rfl, rfl, rfl, w1⟩ := open_int Tryd.underlying5 (hval 1 5 v1 rfl rfl) h1
  obtain ⟨a2, rfl, rfl, rfl, w2⟩ := open_int Tryd.underlying5 (hval 2 5 v2 rfl rfl) h2
  obtain ⟨cs3, rfl, _⟩ := okWide_agg (.inl ⟨_, Tryd.underlying27⟩) (hval 3 27 v3 rfl rfl)
  have k3 := h3
  have lt3 : ∀ x ∈ p3, x.block < W.heap.size := by obtain ⟨m, hm⟩ := k3; exact DataW.trod_lt m _ _ _ hm
  obtain ⟨x3, hx3, ok3⟩ := Opens.arg oS27 h3 hsz (j := 3) (t := 27) rfl rfl
  have hx3 : kS27.rep W (fun b => b < W.heap.size) cs3.toList x3 := by simpa [Value.cells] using hx3
  obtain rfl : cs3 = (encS27 x3).toArray := Array.ext' (encS27_of _ _ _ _ hx3)
  clear hA0 hval0 hsz0 hsz
  obtain ⟨K, hK⟩ := Pure.ImageSames (z0.take len0) a1 a2 x3.f0 x3.f1 (by rw [e0]; exact y0) w0.wf w1 w2 ok3.1 ok3.2.1
  have hS : St W W [] [Ro.sl (Kd.int .u8) a0 cap0 (z0.take len0)] := St.start W (by
    intro r hr
    simp only [List.mem_cons, List.mem_nil_iff, or_false] at hr
    rcases hr with rfl
    · exact w0.ro
    )
  have hC := G.confidantlaw7_ImageSames.calls hK hS (Laid.glob hL hsh)
  (try simp only [sv] at hC)
  rw [e0] at hC
  refine hC.mono fun e W' hq => ?_
  obtain ⟨v, rfl, rfl, hS'⟩ := hq
  have bel := hS'.below
  exact ⟨_, rfl, _, _, _, [], _, [], hW', trodAll_mk1 (shut_bool Tryd.underlying4 _), (trodAll_cons_mk (Below.trod laidOut (by kernel_rfl) (of_decide_eq_true (by kernel_rfl)) k0 bel lt0) (trodAll_cons_mk (shut_int Tryd.underlying5 w1) (trodAll_cons_mk (shut_int Tryd.underlying5 w2) (trodAll_cons_mk (Below.trod laidOut (by kernel_rfl) (of_decide_eq_true (by kernel_rfl)) k3 bel lt3) trodAll_mk0)))), rfl, bel.frame _, fun h => by cases h⟩
theorem over : Rows.imageSamesRow.holds Tryd.pinned (OpenSpec.ofChange Rows.imageSamesSpec) :=
  OpenClaim.holds_of_wide 4 Tryd.f4 rfl rfl rfl rfl rfl rfl rfl ⟨rfl, rfl, rfl, rfl, rfl⟩ rfl rfl rfl rfl rfl (by kernel_rfl) Tryd.func4 (by kernel_rfl)
    (of_decide_eq_true (by kernel_rfl)) (by unfold Func.isWrapper; first | (rw [if_pos (by decide +kernel)]; kernel_rfl) | (rw [if_neg (by decide +kernel)]; exact ⟨rfl, rfl⟩))
    (fun os started H enc _ => lifted os started H enc)
/-- the tied card -/
theorem proved : Rows.ImageSamesCardSaid :=
  Claim7.holds_tied_plain_at .later [] [.data, .data, .data, .data, .sentinel, .sentinel, .listed, .data, .pinned] true (true, "6bbdad823e21584c34fc034e9b34b68cdb1227bf531b67af84c05745984f5e80") true
    over (fun _ h => by cases h) (by kernel_rfl) (fun _ h => by cases h) imageSames_row_tie rfl ⟨rfl, rfl⟩ (by kernel_rfl) rfl
    (fun f fn hf hfn => by
      obtain rfl : f = 4 := Option.some.inj ((show Tryd.prog.funcNamed "confidant/confidantlaw7.ImageSames" = some 4 by kernel_rfl).symm.trans hf) |>.symm
      obtain rfl : fn = Tryd.f4 := (Option.some.inj (Tryd.func4.symm.trans hfn)).symm
      exact ⟨by kernel_rfl, fun j t ht => by
        rw [Tryd.params4] at ht
        have hm : t ∈ [28, 5, 5, 27] := by simpa using Array.mem_of_getElem? ht
        have hall : ([28, 5, 5, 27].all fun u => !Tryd.prog.wantsStandIn u) = true := by kernel_rfl
        exact (show Tryd.prog.wantsStandIn t = false by simpa using List.all_eq_true.1 hall t hm)⟩)
    (by kernel_rfl)
#print axioms proved
end Go.Proofs.YtiilloijkbabbaaDoor.imageSames
namespace Go.Proofs.YtiilloijkbabbaaDoor
/-- the law, under a short name -/
theorem imageSames_holds : Rows.ImageSamesCardSaid := imageSames.proved
end Go.Proofs.YtiilloijkbabbaaDoor
