import Derived.Test.YtiilloijkbabbaaDoorFwMore
import Derived.ProofKit
import Derived.OpenShut
import Derived.ShutString
import Derived.ChangeOld
import Derived.SizedLaws
import Derived.ChangeSlices
/-! What a law is given, of any shape, as the kinds of FwMem tell it. -/
set_option linter.unusedVariables false
set_option linter.unusedSimpArgs false
namespace Go.Fw
open Go Go.RowKit

/-- what reads as data of the type t is a value of the kind K -/
def Opens {α : Type} (P : Program) (t : TypeId) (K : Kd α) (ok : α → Prop) : Prop :=
  ∀ (H : Type) (enc : TypeId × Value → H) (W : World) (held : Bool) (fuel : Nat) (cs : List Value) (x : DataW H × List MemPlace),
    DataW.trod enc P W 0 (fun _ => true) held fuel t cs = some x → (∀ n ∈ x.1.weights P t, n ≤ reachBytes) → ∃ a : α, K.rep W (fun b => b < W.heap.size) cs a ∧ ok a

section
variable {P : Program} {t : TypeId}

theorem Opens.int {k : IntKind} (ht : P.underlying t = some (.int k)) : Opens P t (Kd.int k) (fun x => (Lit.int k x).wf = true) := by
  intro H enc W held fuel cs x h _
  obtain ⟨n, rfl, _, hw⟩ := DataW.trod_int ht h
  exact ⟨n, rfl, hw⟩
theorem Opens.bool (ht : P.underlying t = some .bool) : Opens P t Kd.bool (fun _ => True) := by
  intro H enc W held fuel cs x h _
  obtain ⟨n, rfl, _⟩ := DataW.trod_bool ht h
  exact ⟨n, rfl, trivial⟩
theorem Opens.str (ht : P.underlying t = some .string) : Opens P t Kd.str (fun s => s.size ≤ 140737488351232) := by
  intro H enc W held fuel cs x h hw
  obtain ⟨s, rfl, hx, _⟩ := DataW.trod_string ht h
  subst hx
  have := hw s.data.toList.length (by simp [DataW.weights])
  rw [Array.length_toList] at this
  exact ⟨s, rfl, this⟩

theorem spot_of_cell {w : World} {x : Addr} {v : Value} (h : w.cell? x = some v) : x.spot = none := by
  unfold World.cell? at h
  cases hsp : x.spot with
  | none => rfl
  | some s =>
    rw [hsp] at h
    split at h <;> simp at h

theorem weightsAll_mem {H : Type} {e : TypeId} {d : DataW H} {n : Nat} (hn : n ∈ d.weights P e) : ∀ {l : List (DataW H)}, d ∈ l → n ∈ DataW.weightsAll P e l
  | y :: l, h => by
    simp only [DataW.weightsAll, List.mem_append]
    rcases List.mem_cons.1 h with rfl | h
    · exact .inl hn
    · exact .inr (weightsAll_mem hn h)

/-- the elements, one behind another -/
theorem opens_cells {α : Type} {K : Kd α} {ok : α → Prop} {e : TypeId} (he : Opens P e K ok) (hc : P.cellsOf e = K.n) {H : Type} {enc : TypeId × Value → H} {W : World} {held : Bool} {m : Nat} {a : Addr} (hsp : a.spot = none) :
    ∀ (n o : Nat) (els : List (DataW H × List MemPlace)), els.length = n → (∀ i, i < n → (W.cells? 0 (a.add ((o + i) * K.n)) K.n).bind (DataW.trod enc P W 0 (fun _ => true) held m e) = els[i]?) → (∀ y ∈ els, ∀ k ∈ y.1.weights P e, k ≤ reachBytes) →
      ∃ (cs : List Value) (xs : List α), RepL K W (fun b => b < W.heap.size) cs xs ∧ xs.length = n ∧ (∀ x ∈ xs, ok x) ∧ ∀ j v, cs[j]? = some v → W.cell? (a.add (o * K.n + j)) = some v
  | 0, o, els, hl, _, _ => ⟨[], [], rfl, rfl, by simp, fun j v hj => by simp at hj⟩
  | n + 1, o, [], hl, _, _ => by simp at hl
  | n + 1, o, y :: els, hl, hel, hw => by
    have h0 := hel 0 (by omega)
    simp only [Nat.add_zero, List.getElem?_cons_zero, Option.bind_eq_some_iff] at h0
    obtain ⟨c0, hc0, hy⟩ := h0
    obtain ⟨_, hlen, hget⟩ := World.cells?_some hc0
    obtain ⟨x, hx, hox⟩ := he H enc W held m c0 y hy (hw y (by simp))
    obtain ⟨cs, xs, g1, g2, g3, g4⟩ := opens_cells he hc (m := m) (held := held) (enc := enc) hsp n (o + 1) els (by simpa using hl) (fun i hi => by
      have := hel (i + 1) (by omega)
      rw [show o + (i + 1) = o + 1 + i by omega] at this
      simpa using this) (fun z hz => hw z (by simp [hz]))
    refine ⟨c0 ++ cs, x :: xs, ⟨c0, cs, rfl, hx, g1⟩, by simp [g2], fun z hz => ?_, fun j v hj => ?_⟩
    · rcases List.mem_cons.1 hz with rfl | hz
      · exact hox
      · exact g3 z hz
    · rw [List.getElem?_append] at hj
      split at hj
      · rename_i hjl
        have h1 := hget j (by omega)
        rw [addr_add_add hsp] at h1
        rw [h1]; exact hj
      · rename_i hjl
        have := g4 _ v hj
        rw [← this]
        congr 2
        rw [Nat.add_mul]
        omega

theorem Opens.slice {α : Type} {K : Kd α} {ok : α → Prop} {e : TypeId} {b : Nat} (he : Opens P e K ok) (ht : P.underlying t = some (.slice e)) (hc : P.cellsOf e = K.n) (hb : P.bytesOf e = b) (hpos : 0 < K.n) :
    Opens P t (Kd.slice K) (fun xs => xs.length * b ≤ 140737488351232 ∧ ∀ x ∈ xs, ok x) := by
  intro H enc W held fuel cs x h hw
  rcases DataW.trod_slice ht h with ⟨rfl, _⟩ | ⟨a, len, cap, elems, rest, n, _, rfl, rfl, _, hl, hm, hlen, hel, hsp, _⟩
  · exact ⟨[], ⟨none, 0, rfl, .inl rfl, Nat.le_refl _, Nat.zero_le _, fun _ => rfl⟩, by simp, by simp⟩
  · have hw1 : ∀ y ∈ elems, ∀ k ∈ y.1.weights P e, k ≤ reachBytes := fun y hy k hk => hw k (by
      simp only [DataW.weights, ht, List.mem_cons, List.mem_append]
      exact .inr (.inl (weightsAll_mem hk (List.mem_map.2 ⟨y, hy, rfl⟩))))
    rw [hc] at hel
    have hs0 : len * b ≤ 140737488351232 := by
      have h1 : (elems.length + rest.length) * b ≤ reachBytes := hw _ (by simp [DataW.weights, ht, hb])
      have h2 : len * b ≤ (elems.length + rest.length) * b := Nat.mul_le_mul_right _ (by omega)
      exact Nat.le_trans h2 h1
    by_cases h0 : len = 0
    · subst h0
      exact ⟨[], ⟨some a, cap, rfl, .inl rfl, by simp, hm, fun h => by cases h⟩, by simp, by simp⟩
    have hsp : a.spot = none := by
      have h1 := hel 0 (by omega)
      have h2 : elems[0]? = some (elems[0]'(by omega)) := List.getElem?_eq_getElem (by omega)
      rw [h2, Option.bind_eq_some_iff] at h1
      obtain ⟨c0, hc0, _⟩ := h1
      obtain ⟨_, hlen0, hget⟩ := World.cells?_some hc0
      have h3 := hget 0 hpos
      have h4 : c0[0]? = some (c0[0]'(by omega)) := List.getElem?_eq_getElem (by omega)
      rw [h4, Nat.zero_mul, addr_add_zero, addr_add_zero] at h3
      exact spot_of_cell h3
    obtain ⟨cs, xs, g1, g2, g3, g4⟩ := opens_cells he hc hsp len 0 elems hlen (fun i hi => by rw [Nat.zero_add]; exact hel i hi) hw1
    refine ⟨xs, ⟨some a, cap, by rw [g2], ?_, by omega, hm, fun h => by cases h⟩, ?_, g3⟩
    · by_cases hn : xs = []
      · exact .inl hn
      · have hcl := g1.len
        have hxp : 0 < xs.length := List.length_pos_iff.2 hn
        have hcp : 0 < cs.length := by rw [hcl]; exact Nat.mul_pos hxp hpos
        have h0 := g4 0 _ (List.getElem?_eq_getElem hcp)
        simp only [Nat.zero_mul, Nat.add_zero] at h0
        rw [addr_add_zero] at h0
        refine .inr ⟨a, cs, rfl, spot_of_cell h0, World.block_lt_of_cell? W a h0, g1, fun j v hj => ?_⟩
        have := g4 j v hj
        rwa [Nat.zero_mul, Nat.zero_add] at this
    · rw [g2]; exact hs0

/-- the fields from a place on -/
def OpensF {α : Type} (P : Program) (off : Nat) (fs : List Field) (K : Kd α) (ok : α → Prop) : Prop :=
  ∀ (H : Type) (enc : TypeId × Value → H) (W : World) (held : Bool) (m : Nat) (cs : List Value) (xs : List (DataW H × List MemPlace)), xs.length = fs.length →
    (∀ (i : Nat) (f : Field), fs[i]? = some f → DataW.trod enc P W 0 (fun _ => true) held m f.type ((cs.drop f.offset).take (P.cellsOf f.type)) = xs[i]?) → cs.length = off + K.n →
    (∀ n ∈ DataW.weightsEach P (fs.map (·.type)) (xs.map (·.1)), n ≤ reachBytes) → ∃ a : α, K.rep W (fun b => b < W.heap.size) (cs.drop off) a ∧ ok a

theorem OpensF.nil {off : Nat} : OpensF P off [] Kd.unit (fun _ => True) := by
  intro H enc W held m cs xs _ _ hl _
  refine ⟨(), ?_, trivial⟩
  have : cs.drop off = [] := List.drop_of_length_le (by rw [hl]; exact Nat.le_refl _)
  exact this

theorem OpensF.cons {α β : Type} {K : Kd α} {L : Kd β} {ok : α → Prop} {ok' : β → Prop} {off : Nat} {f : Field} {fs : List Field} (h : Opens P f.type K ok) (hs : OpensF P (off + K.n) fs L ok') (ho : f.offset = off) (hc : P.cellsOf f.type = K.n) :
    OpensF P off (f :: fs) (K.prod L) (fun x => ok x.1 ∧ ok' x.2) := by
  intro H enc W held m cs xs hl hel hlen hw
  obtain _ | ⟨y, xs⟩ := xs
  · simp at hl
  have h0 := hel 0 f rfl
  simp only [List.getElem?_cons_zero] at h0
  rw [ho, hc] at h0
  have hlen' : cs.length = off + (K.n + L.n) := hlen
  obtain ⟨a, ha, hoa⟩ := h H enc W held m _ y h0 (fun n hn => hw n (by
    simp only [List.map_cons, DataW.weightsEach, List.mem_append]; exact .inl hn))
  obtain ⟨b, hb, hob⟩ := hs H enc W held m cs xs (by simpa using hl) (fun i g hg => by
    have := hel (i + 1) g (by simpa using hg)
    simpa using this) (by rw [hlen', Nat.add_assoc]) (fun n hn => hw n (by
    simp only [List.map_cons, DataW.weightsEach, List.mem_append]; exact .inr hn))
  refine ⟨(a, b), ⟨_, _, ?_, ha, hb⟩, hoa, hob⟩
  rw [← List.drop_drop, List.take_append_drop]

theorem Opens.struct {α β : Type} {K : Kd α} {ok : α → Prop} {fs : Array Field} (g : β → α) (g' : α → β) (hg : ∀ a, g (g' a) = a) (ht : P.underlying t = some (.struct fs)) (h : OpensF P 0 fs.toList K ok) (hc : P.cellsOf t = K.n) : Opens P t (K.iso g) (fun x => ok (g x)) := by
  intro H enc W held fuel cs x hx hw
  obtain ⟨xs, n, _, rfl, hl, hxl, hel⟩ := DataW.trod_struct ht hx
  obtain ⟨a, ha, hoa⟩ := h H enc W held n cs xs (by simpa using hxl) (fun i f hf => hel i f (by simpa using hf)) (by rw [hl, hc, Nat.zero_add]) (fun k hk => hw k (by
    simp only [DataW.weights, ht]; exact hk))
  refine ⟨g' a, ?_, by show ok (g (g' a)); rw [hg]; exact hoa⟩
  show K.rep W _ cs (g (g' a))
  rw [hg]
  simpa using ha

/-- the elements of an array from a place on -/
def OpensA {α : Type} (P : Program) (e : TypeId) (sz i n : Nat) (K : Kd α) (ok : α → Prop) : Prop :=
  ∀ (H : Type) (enc : TypeId × Value → H) (W : World) (held : Bool) (m : Nat) (cs : List Value) (xs : List (DataW H × List MemPlace)), xs.length = n →
    (∀ j, j < n → DataW.trod enc P W 0 (fun _ => true) held m e ((cs.drop ((i + j) * sz)).take sz) = xs[j]?) → cs.length = i * sz + K.n →
    (∀ k ∈ DataW.weightsAll P e (xs.map (·.1)), k ≤ reachBytes) → ∃ a : α, K.rep W (fun b => b < W.heap.size) (cs.drop (i * sz)) a ∧ ok a

theorem OpensA.nil {e : TypeId} {sz i : Nat} : OpensA P e sz i 0 Kd.unit (fun _ => True) := by
  intro H enc W held m cs xs _ _ hl _
  refine ⟨(), ?_, trivial⟩
  have : cs.drop (i * sz) = [] := List.drop_of_length_le (by rw [hl]; exact Nat.le_refl _)
  exact this

theorem OpensA.cons {α β : Type} {K : Kd α} {L : Kd β} {ok : α → Prop} {ok' : β → Prop} {e : TypeId} {sz i n : Nat} (h : Opens P e K ok) (hs : OpensA P e sz (i + 1) n L ok') (hc : K.n = sz) :
    OpensA P e sz i (n + 1) (K.prod L) (fun x => ok x.1 ∧ ok' x.2) := by
  intro H enc W held m cs xs hl hel hlen hw
  obtain _ | ⟨y, xs⟩ := xs
  · simp at hl
  have h0 := hel 0 (by omega)
  simp only [List.getElem?_cons_zero, Nat.add_zero] at h0
  have hlen' : cs.length = i * sz + (K.n + L.n) := hlen
  obtain ⟨a, ha, hoa⟩ := h H enc W held m _ y h0 (fun n hn => hw n (by
    simp only [List.map_cons, DataW.weightsAll, List.mem_append]; exact .inl hn))
  obtain ⟨b, hb, hob⟩ := hs H enc W held m cs xs (by simpa using hl) (fun j hj => by
    have := hel (j + 1) (by omega)
    rw [show i + (j + 1) = i + 1 + j by omega] at this
    simpa using this) (by rw [hlen', Nat.add_mul, hc]; omega) (fun n hn => hw n (by
    simp only [List.map_cons, DataW.weightsAll, List.mem_append]; exact .inr hn))
  refine ⟨(a, b), ⟨_, _, ?_, ha, hb⟩, hoa, hob⟩
  rw [Nat.add_mul, Nat.one_mul, ← List.drop_drop, List.take_append_drop]

theorem Opens.array {α β : Type} {K : Kd α} {ok : α → Prop} {n sz : Nat} {e : TypeId} (g : β → α) (g' : α → β) (hg : ∀ a, g (g' a) = a) (ht : P.underlying t = some (.array n e)) (hsz : P.cellsOf e = sz) (h : OpensA P e sz 0 n K ok) (hc : P.cellsOf t = K.n) : Opens P t (K.iso g) (fun x => ok (g x)) := by
  intro H enc W held fuel cs x hx hw
  obtain ⟨xs, m, _, rfl, hl, hxl, hel⟩ := DataW.trod_array ht hx
  obtain ⟨a, ha, hoa⟩ := h H enc W held m cs xs hxl (fun i hi => by rw [Nat.zero_add, ← hsz]; exact hel i hi) (by rw [hl, hc]; simp) (fun k hk => hw k (by
    simp only [DataW.weights, ht]; exact hk))
  refine ⟨g' a, ?_, by show ok (g (g' a)); rw [hg]; exact hoa⟩
  show K.rep W _ cs (g (g' a))
  rw [hg]
  simpa using ha

/-- a law's argument -/
theorem Opens.arg {α : Type} {K : Kd α} {ok : α → Prop} (h : Opens P t K ok) {H : Type} {enc : TypeId × Value → H} {W : World} {held : Bool} {v : Value} {d : DataW H} {ps : List MemPlace} (hd : DataW.Trod enc P W 0 (fun _ => true) held t v d ps)
    {ts : List TypeId} {ds : List (DataW H)} {j : Nat} (hsz : (DataW.weightsEach P ts ds).all (· ≤ reachBytes) = true) (ht : ts[j]? = some t) (hj : ds[j]? = some d) : ∃ a : α, K.rep W (fun b => b < W.heap.size) v.cells.toList a ∧ ok a := by
  obtain ⟨fuel, hf⟩ := hd
  refine h H enc W held fuel _ _ hf fun n hn => ?_
  have := List.all_eq_true.1 hsz _ (DataW.weights_mem_each ht hj n hn)
  simpa using this
end

/-- a slice argument: its address, its room, and the fact that it reads -/
theorem arg_slice {α : Type} {K : Kd α} {W : World} {v : Value} {a : Option Addr} {len cap : Nat} {xs : List α} (hv : v = .slice a len cap) (h : (Kd.slice K).rep W (fun b => b < W.heap.size) v.cells.toList xs) :
    v = .slice a xs.length cap ∧ (Ro.sl K a cap xs).holds W (fun b => b < W.heap.size) := by
  subst hv
  obtain ⟨a', c', he, h'⟩ := h
  simp [Value.cells] at he
  obtain ⟨rfl, rfl, rfl⟩ := he
  exact ⟨rfl, a, cap, rfl, h'⟩
theorem okWide_agg {P : Program} {w : World} {r : Reach} {base : Nat} {t : TypeId} {v : Value} (ht : (∃ fs, P.underlying t = some (.struct fs)) ∨ ∃ n e, P.underlying t = some (.array n e)) (h : Value.okWide P w r base t v) : ∃ cs, v = .agg cs ∧ cs.size = P.cellsOf t := by
  unfold Value.okWide at h
  rcases ht with ⟨fs, ht⟩ | ⟨n, e, ht⟩
  · rw [ht] at h
    obtain ⟨cs, h1, h2, _⟩ := h
    exact ⟨cs, h1, h2⟩
  · rw [ht] at h
    obtain ⟨cs, h1, h2, _⟩ := h
    exact ⟨cs, h1, h2⟩
end Go.Fw
