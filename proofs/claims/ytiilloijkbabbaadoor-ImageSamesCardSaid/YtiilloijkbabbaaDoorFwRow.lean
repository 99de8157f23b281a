import Derived.Test.YtiilloijkbabbaaDoorFwMore
import Derived.Test.YtiilloijkbabbaaDoorFwOpen
import Derived.ProofKit
import Derived.OpenShut
import Derived.ShutString
import Derived.ChangeOld
import Derived.SizedLaws
import Derived.ChangeSlices
/-! From what a law is given to what its walk asks. -/
set_option linter.unusedVariables false
set_option linter.unusedSimpArgs false
namespace Go.Fw
open Go Go.RowKit

def IsRow (k : IntKind) (w : World) (a : Option Addr) (len cap : Nat) (zs : List Int) : Prop :=
  (a = none ∧ len = 0 ∧ cap = 0 ∧ zs = []) ∨
  ∃ x, a = some x ∧ len ≤ cap ∧ cap ≤ maxLen ∧ zs.length = cap ∧ (∀ i, i < zs.length → w.cell? (x.add i) = some (.int k (zs.getD i 0))) ∧ ∀ n ∈ zs, (Lit.int k n).wf = true

theorem IsRow.len {k : IntKind} {w : World} {a : Option Addr} {len cap : Nat} {zs : List Int} (h : IsRow k w a len cap zs) : (zs.take len).length = len := by
  rcases h with ⟨_, rfl, _, _⟩ | ⟨x, _, hl, _, hz, _⟩
  · simp
  · simp [hz, hl]

theorem IsRow.wf {k : IntKind} {w : World} {a : Option Addr} {len cap : Nat} {zs : List Int} (h : IsRow k w a len cap zs) : ∀ n ∈ zs.take len, (Lit.int k n).wf = true := by
  rcases h with ⟨_, rfl, _, _⟩ | ⟨x, _, _, _, _, _, hw⟩
  · simp
  · exact fun n hn => hw n (List.mem_of_mem_take hn)

theorem repL_ints {k : IntKind} (w : World) (G : Bl) : ∀ (xs : List Int), RepL (Kd.int k) w G (xs.map (Value.int k)) xs
  | [] => rfl
  | x :: xs => ⟨[.int k x], _, rfl, rfl, repL_ints w G xs⟩

theorem IsRow.ro {k : IntKind} {w : World} {a : Option Addr} {len cap : Nat} {zs : List Int} (h : IsRow k w a len cap zs) : (Ro.sl (Kd.int k) a cap (zs.take len)).holds w (fun b => b < w.heap.size) := by
  refine ⟨a, cap, rfl, ?_, ?_⟩
  · rcases h with ⟨_, rfl, _, rfl⟩ | ⟨x, rfl, hl, hm, hz, hc, _⟩
    · exact .inl rfl
    · cases hn : zs.take len with
      | nil => exact .inl rfl
      | cons y ys =>
        rw [← hn]
        have hcell : ∀ i, i < len → w.cell? (x.add i) = some (.int k (zs.getD i 0)) := fun i hi => hc i (by omega)
        have hpos : 0 < len := by
          cases len with
          | zero => simp at hn
          | succ n => omega
        have h0 := hcell 0 hpos
        have hs : x.spot = none := by
          rw [show x.add 0 = x from rfl] at h0
          unfold World.cell? at h0
          cases hsp : x.spot with
          | none => rfl
          | some s =>
            rw [hsp] at h0
            split at h0 <;> simp at h0
        refine .inr ⟨x, _, rfl, hs, World.block_lt_of_cell? w x (u := .int k (zs.getD 0 0)) h0, repL_ints w _ _, fun j v hj => ?_⟩
        have hj' : j < len := by
          have := (List.getElem?_eq_some_iff.1 hj).1
          simp at this; omega
        rw [hcell j hj']
        rw [List.getElem?_map, List.getElem?_take, if_pos hj'] at hj
        have hjz : j < zs.length := by omega
        simp [List.getElem?_eq_getElem hjz] at hj
        simp [List.getD, List.getElem?_eq_getElem hjz, hj]
  · rcases h with ⟨ha, rfl, rfl, rfl⟩ | ⟨x, rfl, hl, hm, hz, hc, _⟩
    · exact ⟨by simp, Nat.zero_le _, fun _ => rfl⟩
    · exact ⟨by simp; omega, hm, fun h => by cases h⟩

open Go.ChangeShapes Go.WideShapes in
/-- a law's slice of whole numbers is no longer than its weight allows -/
theorem sized_row {H : Type} {enc : TypeId × Value → H} {P : Program} {W : World} {base : Nat} {spare : Nat → Bool} {held : Bool} {t e : TypeId} {k : IntKind} {a : Option Addr} {len cap : Nat} {d : DataW H} {ps : List MemPlace} {ts : List TypeId} {ds : List (DataW H)} {j : Nat}
    (hsz : (DataW.weightsEach P ts ds).all (· ≤ reachBytes) = true) (ht : ts[j]? = some t) (hd : ds[j]? = some d) (hu : P.underlying t = some (.slice e)) (he : P.underlying e = some (.int k)) (hc : P.cellsOf e = 1) {b : Nat} (hb : P.bytesOf e = b)
    (h : DataW.Trod enc P W base spare held t (.slice a len cap) d ps) : len * b ≤ 140737488351232 := by
  obtain ⟨fuel, hf⟩ := h
  rcases Go.ChangeShapes.open_ints hu he hc hf with ⟨hcs, _⟩ | ⟨x, l, c, zs, hcs, _, hl, _, hz, hx, _, _⟩
  · simp [Value.cells] at hcs
    obtain ⟨rfl, rfl, rfl⟩ := hcs
    simp
  · simp [Value.cells] at hcs
    obtain ⟨rfl, rfl, rfl⟩ := hcs
    obtain ⟨hx, _⟩ := Prod.mk.inj hx
    subst hx
    have z := sized_slice hsz ht hd hu
    rw [hb] at z
    have hl2 : len ≤ zs.length := by
      rw [hz]
      split
      · exact hl
      · exact Nat.le_refl _
    have h1 : (Go.ChangeShapes.lits (H := H) k (zs.take len)).length + (Go.ChangeShapes.lits (H := H) k (zs.drop len)).length = zs.length := by
      simp [Go.ChangeShapes.lits]
      omega
    rw [h1] at z
    exact Nat.le_trans (Nat.mul_le_mul_right _ hl2) z

/-- a tied card's row, where the walk asks for the shape of the program's variables too -/
theorem handed_shaped {H : Type} {enc : TypeId × Value → H} {a : Assume} {C : Checked} {os : Os} {f : FuncId} {fn : Func} {s : ChangeSpec} {conds : List PathCond} {apart fresh handsOn again : Bool} {X : World → Array Value → Prop}
    (hX : ∀ (w w' : World) (args : Array Value), w.heap = w'.heap → X w args → X w' args) (own : ownKnob C.prog.godebug = none) (started : os.Started) (noInit : C.prog.inits.idxOf? f = none) (hfn : C.prog.funcs[f]? = some fn)
    (wit : ∃ (w : World) (tape : Tape) (i : Input), w.os = os ∧ (w.forCall tape i).Shaped C.prog ∧ i.vars = [] ∧ Input.okWide C.prog (w.forCall tape i) .any w.heap.size f i ∧
      ((s.pre enc C.prog fn conds apart (w.forCall tape i).memory i.args ∧ X (w.forCall tape i).memory i.args) ∧ sizedMet enc C.prog fn (OpenSpec.ofChange s) apart (w.forCall tape i).memory i.args) ∧ a.holds C.prog (lone (Frame.enter C.prog f i.args .normal) [] (w.forCall tape i)))
    (walk : ∀ (W : World) (base : Nat) (args : Array Value) (ds gs : List (DataW H)) (before : List MemPlace), (∀ (j : Nat) t v, fn.params[j]? = some t → args[j]? = some v → Value.okWide C.prog W .any base t v) →
      DataW.Whole enc C.prog fn.params.toList s.vars apart W args.toList ds gs before → conds.all (PathCond.test C.prog ⟨fn.params.toList, ds, s.plain.varTypes C.prog, gs⟩) = true →
      (DataW.weightsEach C.prog (fn.params.toList ++ s.plain.varTypes C.prog) (ds ++ gs)).all (· ≤ reachBytes) = true → X W args → W.ShapedOpen C.prog → a.holds C.prog (lone (Frame.enter C.prog f args .normal) [] W) →
      Calls C.prog f args W fun e W' => ∃ v, e = .returned v ∧ s.post enc C.prog fn apart fresh handsOn again W args v W') :
    ReturnsInHanded a C os f .any (fun w args => (s.pre enc C.prog fn conds apart w args ∧ X w args) ∧ sizedMet enc C.prog fn (OpenSpec.ofChange s) apart w args) (s.post enc C.prog fn apart fresh handsOn again) :=
  returnsInHanded_of_calls own started noInit wit fun w tape i _ shape _ ok pre asm => by
    obtain ⟨_, _, _, fn2, e2, _, _, _, _, val⟩ := ok
    cases Option.some.inj (e2.symm.trans hfn)
    obtain ⟨⟨⟨ds, gs, bf, whole, cn⟩, x⟩, sz⟩ := pre
    have whole' := DataW.Whole.of_heap (w' := w.forCall tape i) (by rfl) whole
    have x' := hX (w.forCall tape i).memory (w.forCall tape i) i.args (by rfl) x
    exact (walk _ _ _ ds gs bf val whole' cn (sz.weights whole) x' shape asm).mono fun e W' ⟨v, he, hp⟩ => by
      subst he
      exact ChangeSpec.post_blind hp
/-- a variable of an interface type that was laid as one that is not nil -/
theorem trod_iface {H : Type} {enc : TypeId × Value → H} {P : Program} {w : World} {base : Nat} {spare : Nat → Bool} {held : Bool} {t : TypeId} {ms : Array (String × TypeId)} (hu : P.underlying t = some (.interface ms)) {name : String} {d : DataW H} {ps : List MemPlace} :
    ∀ {fuel : Nat} {cs : List Value}, DataW.trod enc P w base spare held fuel t cs = some (.iface name d, ps) → ∃ u v, cs = [.iface u v]
  | 0, cs, h => by simp [DataW.trod] at h
  | fuel + 1, cs, h => by
    unfold DataW.trod at h
    rw [hu] at h
    split at h <;> simp_all
end Go.Fw
