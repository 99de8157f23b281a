import Derived.Test.YtiilloijkbabbaaDoorFwCore
import Derived.Laws.AppendOwn
import Derived.Laws.MakeOwn
import Derived.Laws.OwnMore
import Derived.Below
/-!
  What memory holds: parts that are owned, each with the blocks that it owns, apart from each other; and facts on blocks that nobody writes.
-/
set_option linter.unusedVariables false
set_option linter.unusedSimpArgs false
namespace Go.Fw
open Go Go.RowKit

abbrev Bl := Nat → Prop

structure Ass where
  holds : World → Bl → Bl → Prop
  loc : ∀ {w w' : World} {F G G' : Bl}, holds w F G → (∀ k, F k ∨ G k → w'.heap[k]? = w.heap[k]?) → (∀ k, G k → G' k) → holds w' F G'

structure Ro where
  holds : World → Bl → Prop
  loc : ∀ {w w' : World} {G G' : Bl}, holds w G → (∀ k, G k → w'.heap[k]? = w.heap[k]?) → (∀ k, G k → G' k) → holds w' G'

def AllO (w : World) (G : Bl) : List Ass → Bl → Prop
  | [], F => ∀ k, ¬ F k
  | A :: l, F => ∃ F1 F2, A.holds w F1 G ∧ AllO w G l F2 ∧ (∀ k, F1 k → ¬ F2 k) ∧ ∀ k, F k ↔ F1 k ∨ F2 k

structure St (B w : World) (os : List Ass) (rs : List Ro) : Prop where
  os_ : w.os = B.os
  tape : w.tape = B.tape
  output : w.output = B.output
  mem : ∃ G F : Bl, (∀ k, G k ∨ F k → k < w.heap.size) ∧ (∀ k, G k → ¬ F k) ∧ (∀ k, k < B.heap.size → G k ∧ w.heap[k]? = B.heap[k]?) ∧ AllO w G os F ∧ ∀ r ∈ rs, r.holds w G

/-- the streams are as they were -/
def Outer (w w' : World) : Prop := w'.os = w.os ∧ w'.tape = w.tape ∧ w'.output = w.output

theorem or3 {p q r : Prop} (h : p ∨ q ∨ r) : q ∨ p ∨ r := by
  rcases h with h | h | h
  · exact .inr (.inl h)
  · exact .inl h
  · exact .inr (.inr h)

theorem AllO.loc {w w' : World} {G G' : Bl} : ∀ {os : List Ass} {F : Bl}, AllO w G os F → (∀ k, F k ∨ G k → w'.heap[k]? = w.heap[k]?) → (∀ k, G k → G' k) → AllO w' G' os F
  | [], F, h, _, _ => h
  | A :: l, F, h, hh, hG => by
    obtain ⟨F1, F2, h1, h2, h3, h4⟩ := h
    exact ⟨F1, F2, A.loc h1 (fun k hk => hh k (hk.imp (fun x => (h4 k).2 (.inl x)) id)) hG, h2.loc (fun k hk => hh k (hk.imp (fun x => (h4 k).2 (.inr x)) id)) hG, h3, h4⟩

theorem AllO.pull {w : World} {G : Bl} : ∀ {os : List Ass} {F : Bl} {k : Nat} {A : Ass}, AllO w G os F → os[k]? = some A → AllO w G (A :: os.eraseIdx k) F
  | [], F, k, A, h, hk => by simp at hk
  | A0 :: l, F, 0, A, h, hk => by simp at hk; subst hk; exact h
  | A0 :: l, F, k + 1, A, h, hk => by
    obtain ⟨F1, F2, h1, h2, h3, h4⟩ := h
    obtain ⟨F3, F4, g1, g2, g3, g4⟩ := h2.pull (k := k) (A := A) (by simpa using hk)
    refine ⟨F3, fun x => F1 x ∨ F4 x, g1, ⟨F1, F4, h1, g2, fun x hx hy => h3 x hx ((g4 x).2 (.inr hy)), fun x => Iff.rfl⟩, fun x hx hy => ?_, fun x => ?_⟩
    · rcases hy with hy | hy
      · exact h3 x hy ((g4 x).2 (.inl hx))
      · exact g3 x hx hy
    · show F x ↔ F3 x ∨ F1 x ∨ F4 x
      rw [h4, g4]
      exact ⟨or3, or3⟩

theorem AllO.push {w : World} {G : Bl} : ∀ {os : List Ass} {F F0 : Bl} {k : Nat} {A0 A : Ass}, os[k]? = some A0 → A.holds w F0 G → AllO w G (os.eraseIdx k) F → (∀ x, F0 x → ¬ F x) → AllO w G (os.set k A) (fun x => F0 x ∨ F x)
  | [], F, F0, k, A0, A, hk, _, _, _ => by simp at hk
  | B0 :: l, F, F0, 0, A0, A, hk, h0, h, hd => ⟨F0, F, h0, h, hd, fun _ => Iff.rfl⟩
  | B0 :: l, F, F0, k + 1, A0, A, hk, h0, h, hd => by
    obtain ⟨F1, F2, h1, h2, h3, h4⟩ := h
    have := AllO.push (os := l) (k := k) (A0 := A0) (A := A) (by simpa using hk) h0 h2 (fun x hx hy => hd x hx ((h4 x).2 (.inr hy)))
    refine ⟨F1, _, h1, this, fun x hx hy => ?_, fun x => ?_⟩
    · rcases hy with hy | hy
      · exact hd x hy ((h4 x).2 (.inl hx))
      · exact h3 x hx hy
    · show F0 x ∨ F x ↔ F1 x ∨ F0 x ∨ F2 x
      rw [h4]
      exact ⟨or3, or3⟩

section
variable {B w : World} {os : List Ass} {rs : List Ro}

theorem St.pull (h : St B w os rs) (k : Nat) {A : Ass} (hk : os[k]? = some A) : St B w (A :: os.eraseIdx k) rs := by
  obtain ⟨G, F, h1, h2, h3, h4, h5⟩ := h.mem
  exact ⟨h.os_, h.tape, h.output, G, F, h1, h2, h3, h4.pull hk, h5⟩

theorem St.dropO (h : St B w os rs) (k : Nat) {A : Ass} (hk : os[k]? = some A) : St B w (os.eraseIdx k) rs := by
  obtain ⟨G, F, h1, h2, h3, h4, h5⟩ := h.mem
  obtain ⟨F1, F2, g1, g2, g3, g4⟩ := h4.pull hk
  exact ⟨h.os_, h.tape, h.output, G, F2, fun k hk => h1 k (hk.imp id fun x => (g4 k).2 (.inr x)), fun k hk hf => h2 k hk ((g4 k).2 (.inr hf)), h3, g2, h5⟩

theorem St.subR (h : St B w os rs) {rs' : List Ro} (hs : ∀ r ∈ rs', r ∈ rs) : St B w os rs' := by
  obtain ⟨G, F, h1, h2, h3, h4, h5⟩ := h.mem
  exact ⟨h.os_, h.tape, h.output, G, F, h1, h2, h3, h4, fun r hr => h5 r (hs r hr)⟩

/-- all owned parts but those that are named -/
theorem St.subO (h : St B w os rs) {os' : List Ass} (hs : ∃ l : List Nat, l.foldl (fun o k => o.eraseIdx k) os = os') : St B w os' rs := by
  obtain ⟨l, hl⟩ := hs
  induction l generalizing os with
  | nil => simp at hl; subst hl; exact h
  | cons k l ih =>
    simp only [List.foldl_cons] at hl
    refine ih ?_ hl
    cases hk : os[k]? with
    | none =>
      have : os.eraseIdx k = os := List.eraseIdx_of_length_le (by simpa using hk)
      rw [this]; exact h
    | some A => exact h.dropO k hk

/-- the world has drawn -/
theorem St.outer (h : St B w os rs) {w' : World} (ho : Outer w w') (hh : w'.heap = w.heap) : St B w' os rs := by
  obtain ⟨G, F, h1, h2, h3, h4, h5⟩ := h.mem
  refine ⟨ho.1.trans h.os_, ho.2.1.trans h.tape, ho.2.2.trans h.output, G, F, by rw [hh]; exact h1, h2, by rw [hh]; exact h3, h4.loc (fun k _ => by rw [hh]) (fun _ h => h), fun r hr => r.loc (h5 r hr) (fun k _ => by rw [hh]) (fun _ h => h)⟩

theorem St.drew (h : St B w os rs) : St B w.drew os rs := h.outer ⟨rfl, rfl, rfl⟩ rfl

/-- a fact out of what memory holds -/
theorem St.ro (h : St B w os rs) {r : Ro} (hr : r ∈ rs) : ∃ G, r.holds w G := by
  obtain ⟨G, F, h1, h2, h3, h4, h5⟩ := h.mem
  exact ⟨G, h5 r hr⟩

theorem St.own (h : St B w os rs) (k : Nat) {A : Ass} (hk : os[k]? = some A) : ∃ F G, A.holds w F G := by
  obtain ⟨G, F, h1, h2, h3, h4, h5⟩ := h.mem
  obtain ⟨F1, F2, g1, _⟩ := h4.pull hk
  exact ⟨F1, G, g1⟩

/-- one more fact, that follows from what is there -/
theorem St.addR (h : St B w os rs) {r : Ro} (hr : ∀ G, (∀ r' ∈ rs, r'.holds w G) → r.holds w G) : St B w os (r :: rs) := by
  obtain ⟨G, F, h1, h2, h3, h4, h5⟩ := h.mem
  exact ⟨h.os_, h.tape, h.output, G, F, h1, h2, h3, h4, fun r' hr' => by
    rcases List.mem_cons.1 hr' with rfl | hr'
    · exact hr G h5
    · exact h5 r' hr'⟩

/-- one part turns: its own blocks, and new ones -/
theorem St.update (h : St B w os rs) (k : Nat) {A : Ass} (hk : os[k]? = some A) :
    ∃ F1 G : Bl, A.holds w F1 G ∧ (∀ x, F1 x → x < w.heap.size) ∧ (∀ r ∈ rs, r.holds w G) ∧ (∀ (q : Nat) (A' : Ass), os[q]? = some A' → ∃ F', A'.holds w F' G) ∧ (∀ x, G x → x < w.heap.size ∧ ¬ F1 x) ∧
      ∀ (w' : World) (A' : Ass) (F1' : Bl), Outer w w' → w.heap.size ≤ w'.heap.size → (∀ x, x < w.heap.size → ¬ F1 x → w'.heap[x]? = w.heap[x]?) → A'.holds w' F1' G → (∀ x, F1' x → (F1 x ∨ w.heap.size ≤ x) ∧ x < w'.heap.size) →
        St B w' (os.set k A') rs := by
  obtain ⟨G, F, h1, h2, h3, h4, h5⟩ := h.mem
  obtain ⟨F1, F2, g1, g2, g3, g4⟩ := h4.pull hk
  refine ⟨F1, G, g1, fun x hx => h1 x (.inr ((g4 x).2 (.inl hx))), h5, fun q A' hq => by obtain ⟨F', _, g, _⟩ := h4.pull hq; exact ⟨F', g⟩, fun x hx => ⟨h1 x (.inl hx), fun hf => h2 x hx ((g4 x).2 (.inl hf))⟩, ?_⟩
  intro w' A' F1' ho hs hb hA hF
  have hGk : ∀ x, G x → w'.heap[x]? = w.heap[x]? := fun x hx => hb x (h1 x (.inl hx)) fun hf => h2 x hx ((g4 x).2 (.inl hf))
  have hF2k : ∀ x, F2 x → w'.heap[x]? = w.heap[x]? := fun x hx => hb x (h1 x (.inr ((g4 x).2 (.inr hx)))) fun hf => g3 x hf hx
  have hrest : AllO w' G (os.eraseIdx k) F2 := g2.loc (fun x hx => hx.elim (hF2k x) (hGk x)) (fun _ h => h)
  have hdis : ∀ x, F1' x → ¬ F2 x := fun x hx hf => by
    rcases (hF x hx).1 with h | h
    · exact g3 x h hf
    · have := h1 x (.inr ((g4 x).2 (.inr hf))); omega
  refine ⟨ho.1.trans h.os_, ho.2.1.trans h.tape, ho.2.2.trans h.output, G, fun x => F1' x ∨ F2 x, ?_, ?_, ?_, AllO.push hk hA hrest hdis, ?_⟩
  · intro x hx
    rcases hx with hx | hx | hx
    · exact Nat.lt_of_lt_of_le (h1 x (.inl hx)) hs
    · exact (hF x hx).2
    · exact Nat.lt_of_lt_of_le (h1 x (.inr ((g4 x).2 (.inr hx)))) hs
  · intro x hx hf
    rcases hf with hf | hf
    · rcases (hF x hf).1 with h | h
      · exact h2 x hx ((g4 x).2 (.inl h))
      · have := h1 x (.inl hx); omega
    · exact h2 x hx ((g4 x).2 (.inr hf))
  · intro x hx
    exact ⟨(h3 x hx).1, (hGk x (h3 x hx).1).trans (h3 x hx).2⟩
  · intro r hr
    exact r.loc (h5 r hr) hGk (fun _ h => h)

/-- one part more, of new blocks -/
theorem St.add (h : St B w os rs) {w' : World} {A : Ass} {F1 : Bl} (ho : Outer w w') (hs : w.heap.size ≤ w'.heap.size) (hb : ∀ x, x < w.heap.size → w'.heap[x]? = w.heap[x]?)
    (hA : ∀ G, (∀ r ∈ rs, r.holds w' G) → A.holds w' F1 G) (hF : ∀ x, F1 x → w.heap.size ≤ x ∧ x < w'.heap.size) : St B w' (A :: os) rs := by
  obtain ⟨G, F, h1, h2, h3, h4, h5⟩ := h.mem
  have h5' : ∀ r ∈ rs, r.holds w' G := fun r hr => r.loc (h5 r hr) (fun x hx => hb x (h1 x (.inl hx))) (fun _ h => h)
  refine ⟨ho.1.trans h.os_, ho.2.1.trans h.tape, ho.2.2.trans h.output, G, fun x => F1 x ∨ F x, ?_, ?_, ?_, ⟨F1, F, hA G h5', h4.loc (fun x hx => hb x (h1 x hx.symm)) (fun _ h => h), ?_, fun _ => Iff.rfl⟩, h5'⟩
  · intro x hx
    rcases hx with hx | hx | hx
    · exact Nat.lt_of_lt_of_le (h1 x (.inl hx)) hs
    · exact (hF x hx).2
    · exact Nat.lt_of_lt_of_le (h1 x (.inr hx)) hs
  · intro x hx hf
    rcases hf with hf | hf
    · have := h1 x (.inl hx); have := (hF x hf).1; omega
    · exact h2 x hx hf
  · intro x hx
    exact ⟨(h3 x hx).1, (hb x (h1 x (.inl (h3 x hx).1))).trans (h3 x hx).2⟩
  · intro x hx hf
    have := h1 x (.inr hf); have := (hF x hx).1; omega

/-- a part that nobody will write any more -/
theorem St.freeze (h : St B w os rs) (k : Nat) {A : Ass} (hk : os[k]? = some A) {r : Ro} (hr : ∀ F G, A.holds w F G → r.holds w (fun x => G x ∨ F x)) : St B w (os.eraseIdx k) (r :: rs) := by
  obtain ⟨G, F, h1, h2, h3, h4, h5⟩ := h.mem
  obtain ⟨F1, F2, g1, g2, g3, g4⟩ := h4.pull hk
  refine ⟨h.os_, h.tape, h.output, fun x => G x ∨ F1 x, F2, ?_, ?_, ?_, g2.loc (fun _ _ => rfl) (fun _ h => .inl h), ?_⟩
  · intro x hx
    rcases hx with (hx | hx) | hx
    · exact h1 x (.inl hx)
    · exact h1 x (.inr ((g4 x).2 (.inl hx)))
    · exact h1 x (.inr ((g4 x).2 (.inr hx)))
  · intro x hx hf
    rcases hx with hx | hx
    · exact h2 x hx ((g4 x).2 (.inr hf))
    · exact g3 x hx hf
  · intro x hx
    exact ⟨.inl (h3 x hx).1, (h3 x hx).2⟩
  · intro r' hr'
    rcases List.mem_cons.1 hr' with rfl | hr'
    · exact hr F1 G g1
    · exact r'.loc (h5 r' hr') (fun _ _ => rfl) (fun _ h => .inl h)

theorem St.below (h : St B w os rs) : Below B.heap.size B w := by
  obtain ⟨G, F, h1, h2, h3, h4, h5⟩ := h.mem
  refine ⟨h.os_, h.tape, h.output, ?_, fun k hk => (h3 k hk).2⟩
  cases hB : B.heap.size with
  | zero => omega
  | succ n =>
    have := h1 n (.inl (h3 n (by omega)).1)
    omega

theorem St.start (W : World) {rs : List Ro} (hr : ∀ r ∈ rs, r.holds W (fun k => k < W.heap.size)) : St W W [] rs :=
  ⟨rfl, rfl, rfl, fun k => k < W.heap.size, fun _ => False, fun k hk => hk.elim id False.elim, fun _ _ h => h, fun k hk => ⟨hk, rfl⟩, fun _ h => h, hr⟩
end

/-! ## How values lie in cells -/
structure Kd (α : Type) where
  n : Nat
  rep : World → Bl → List Value → α → Prop
  len : ∀ {w G vs x}, rep w G vs x → vs.length = n
  one : ∀ {w G vs x}, rep w G vs x → ∀ v ∈ vs, v.oneCell' = true
  loc : ∀ {w w' : World} {G G' : Bl} {vs : List Value} {x : α}, rep w G vs x → (∀ k, G k → w'.heap[k]? = w.heap[k]?) → (∀ k, G k → G' k) → rep w' G' vs x

def Kd.int (k : IntKind) : Kd Int := ⟨1, fun _ _ vs x => vs = [.int k x], by rintro _ _ _ _ rfl; rfl, by rintro _ _ _ _ rfl v hv; simp at hv; subst hv; rfl, fun h _ _ => h⟩
def Kd.bool : Kd Bool := ⟨1, fun _ _ vs x => vs = [.bool x], by rintro _ _ _ _ rfl; rfl, by rintro _ _ _ _ rfl v hv; simp at hv; subst hv; rfl, fun h _ _ => h⟩
def Kd.str : Kd ByteArray := ⟨1, fun _ _ vs x => vs = [.string x], by rintro _ _ _ _ rfl; rfl, by rintro _ _ _ _ rfl v hv; simp at hv; subst hv; rfl, fun h _ _ => h⟩
def Kd.unit : Kd Unit := ⟨0, fun _ _ vs _ => vs = [], by rintro _ _ _ _ rfl; rfl, by rintro _ _ _ _ rfl v hv; simp at hv, fun h _ _ => h⟩

def Kd.prod {α β : Type} (K : Kd α) (L : Kd β) : Kd (α × β) where
  n := K.n + L.n
  rep w G vs x := ∃ a b, vs = a ++ b ∧ K.rep w G a x.1 ∧ L.rep w G b x.2
  len := by rintro w G vs x ⟨a, b, rfl, ha, hb⟩; rw [List.length_append, K.len ha, L.len hb]
  one := by
    rintro w G vs x ⟨a, b, rfl, ha, hb⟩ v hv
    rcases List.mem_append.1 hv with hv | hv
    · exact K.one ha v hv
    · exact L.one hb v hv
  loc := by rintro w w' G G' vs x ⟨a, b, rfl, ha, hb⟩ h1 h2; exact ⟨a, b, rfl, K.loc ha h1 h2, L.loc hb h1 h2⟩

def Kd.iso {α β : Type} (K : Kd α) (f : β → α) : Kd β := ⟨K.n, fun w G vs x => K.rep w G vs (f x), fun h => K.len h, fun h => K.one h, fun h => K.loc h⟩

/-- cells, one value behind another -/
def RepL {α : Type} (K : Kd α) (w : World) (G : Bl) : List Value → List α → Prop
  | cs, [] => cs = []
  | cs, x :: xs => ∃ a b, cs = a ++ b ∧ K.rep w G a x ∧ RepL K w G b xs

theorem RepL.len {α : Type} {K : Kd α} {w : World} {G : Bl} : ∀ {xs : List α} {cs : List Value}, RepL K w G cs xs → cs.length = xs.length * K.n
  | [], cs, h => by have : cs = [] := h; subst this; simp
  | x :: xs, cs, ⟨a, b, e, ha, hb⟩ => by subst e; rw [List.length_append, K.len ha, hb.len, List.length_cons, Nat.add_mul]; omega

theorem RepL.one {α : Type} {K : Kd α} {w : World} {G : Bl} : ∀ {xs : List α} {cs : List Value}, RepL K w G cs xs → ∀ v ∈ cs, v.oneCell' = true
  | [], cs, h, v, hv => by have : cs = [] := h; subst this; simp at hv
  | x :: xs, cs, ⟨a, b, e, ha, hb⟩, v, hv => by
    subst e
    rcases List.mem_append.1 hv with hv | hv
    · exact K.one ha v hv
    · exact hb.one v hv

theorem RepL.loc {α : Type} {K : Kd α} {w w' : World} {G G' : Bl} (h1 : ∀ k, G k → w'.heap[k]? = w.heap[k]?) (h2 : ∀ k, G k → G' k) : ∀ {xs : List α} {cs : List Value}, RepL K w G cs xs → RepL K w' G' cs xs
  | [], cs, h => h
  | x :: xs, cs, ⟨a, b, e, ha, hb⟩ => ⟨a, b, e, K.loc ha h1 h2, hb.loc h1 h2⟩

theorem RepL.append {α : Type} {K : Kd α} {w : World} {G : Bl} {ys : List α} {ds : List Value} (hd : RepL K w G ds ys) : ∀ {xs : List α} {cs : List Value}, RepL K w G cs xs → RepL K w G (cs ++ ds) (xs ++ ys)
  | [], cs, h => by have : cs = [] := h; subst this; exact hd
  | x :: xs, cs, ⟨a, b, e, ha, hb⟩ => ⟨a, b ++ ds, by rw [e, List.append_assoc], ha, RepL.append hd hb⟩

theorem RepL.get {α : Type} {K : Kd α} {w : World} {G : Bl} : ∀ {xs : List α} {cs : List Value} {i : Nat} {x : α}, RepL K w G cs xs → xs[i]? = some x → ∃ vs, K.rep w G vs x ∧ (cs.drop (i * K.n)).take K.n = vs
  | [], cs, i, x, h, hx => by simp at hx
  | y :: xs, cs, 0, x, ⟨a, b, e, ha, hb⟩, hx => by
    simp at hx; subst hx; subst e
    refine ⟨a, ha, ?_⟩
    simp [← K.len ha]
  | y :: xs, cs, i + 1, x, ⟨a, b, e, ha, hb⟩, hx => by
    obtain ⟨vs, h1, h2⟩ := hb.get (i := i) (x := x) (by simpa using hx)
    subst e
    refine ⟨vs, h1, ?_⟩
    rw [← h2]
    have : (i + 1) * K.n = a.length + i * K.n := by rw [K.len ha, Nat.add_mul]; omega
    rw [this, ← List.drop_drop, List.drop_left]

theorem RepL.take {α : Type} {K : Kd α} {w : World} {G : Bl} : ∀ {xs : List α} {cs : List Value} (n : Nat), RepL K w G cs xs → RepL K w G (cs.take (n * K.n)) (xs.take n)
  | [], cs, n, h => by have : cs = [] := h; subst this; simp [RepL]
  | x :: xs, cs, 0, _ => by simp [RepL]
  | x :: xs, cs, n + 1, ⟨a, b, e, ha, hb⟩ => by
    subst e
    refine ⟨a, b.take (n * K.n), ?_, ha, hb.take n⟩
    have : (n + 1) * K.n = a.length + n * K.n := by rw [K.len ha, Nat.add_mul]; omega
    rw [this, List.take_length_add_append]

theorem RepL.drop {α : Type} {K : Kd α} {w : World} {G : Bl} : ∀ {xs : List α} {cs : List Value} (n : Nat), RepL K w G cs xs → RepL K w G (cs.drop (n * K.n)) (xs.drop n)
  | [], cs, n, h => by have : cs = [] := h; subst this; simp [RepL]
  | x :: xs, cs, 0, h => by simpa using h
  | x :: xs, cs, n + 1, ⟨a, b, e, ha, hb⟩ => by
    subst e
    have : (n + 1) * K.n = a.length + n * K.n := by rw [K.len ha, Nat.add_mul]; omega
    rw [this, ← List.drop_drop, List.drop_left]
    simpa using hb.drop n

theorem RepL.set {α : Type} {K : Kd α} {w : World} {G : Bl} {y : α} {vs : List Value} (hy : K.rep w G vs y) : ∀ {xs : List α} {cs : List Value} {i : Nat}, RepL K w G cs xs → i < xs.length → RepL K w G (cs.take (i * K.n) ++ vs ++ cs.drop ((i + 1) * K.n)) (xs.set i y)
  | [], cs, i, h, hi => by simp at hi
  | x :: xs, cs, 0, ⟨a, b, e, ha, hb⟩, hi => by
    subst e
    refine ⟨vs, b, ?_, hy, hb⟩
    rw [Nat.zero_mul, List.take_zero, List.nil_append, Nat.zero_add, Nat.one_mul, ← K.len ha, List.drop_left]
  | x :: xs, cs, i + 1, ⟨a, b, e, ha, hb⟩, hi => by
    subst e
    refine ⟨a, _, ?_, ha, hb.set hy (i := i) (by simpa using hi)⟩
    have h1 : (i + 1) * K.n = a.length + i * K.n := by rw [K.len ha, Nat.add_mul]; omega
    have h2 : (i + 1 + 1) * K.n = a.length + (i + 1) * K.n := by rw [K.len ha, Nat.add_mul (i + 1)]; omega
    rw [h2, ← List.drop_drop, List.drop_left, h1, List.take_length_add_append, List.append_assoc, List.append_assoc, List.append_assoc]

/-- what a slice's address leads to, all of it read only -/
def Reads {α : Type} (K : Kd α) (w : World) (G : Bl) (a : Option Addr) (xs : List α) : Prop :=
  xs = [] ∨ ∃ ad cs, a = some ad ∧ ad.spot = none ∧ G ad.block ∧ RepL K w G cs xs ∧ ∀ j v, cs[j]? = some v → w.cell? (ad.add j) = some v

theorem Reads.loc {α : Type} {K : Kd α} {w w' : World} {G G' : Bl} {a : Option Addr} {xs : List α} (h : Reads K w G a xs) (h1 : ∀ k, G k → w'.heap[k]? = w.heap[k]?) (h2 : ∀ k, G k → G' k) : Reads K w' G' a xs := by
  rcases h with h | ⟨ad, cs, e, hs, hg, hr, hc⟩
  · exact .inl h
  · refine .inr ⟨ad, cs, e, hs, h2 _ hg, hr.loc h1 h2, fun j v hv => ?_⟩
    have hb : (ad.add j).block = ad.block := by unfold Addr.add; split <;> rfl
    rw [World.cell?_of_block (w := w) (by rw [hb]; exact h1 _ hg)]
    exact hc j v hv

def Kd.slice {α : Type} (K : Kd α) : Kd (List α) where
  n := 1
  rep w G vs xs := ∃ a c, vs = [.slice a xs.length c] ∧ Reads K w G a xs ∧ xs.length ≤ c ∧ c ≤ maxLen ∧ (a = none → c = 0)
  len := by rintro _ _ _ _ ⟨a, c, rfl, _⟩; rfl
  one := by rintro _ _ _ _ ⟨a, c, rfl, _⟩ v hv; simp at hv; subst hv; rfl
  loc := by rintro _ _ _ _ _ _ ⟨a, c, rfl, h, h'⟩ h1 h2; exact ⟨a, c, rfl, h.loc h1 h2, h'⟩

/-- the fact: these cells hold that -/
def Ro.rep {α : Type} (K : Kd α) (vs : List Value) (x : α) : Ro := ⟨fun w G => K.rep w G vs x, fun h => K.loc h⟩
/-- the fact: this slice reads as that -/
def Ro.sl {α : Type} (K : Kd α) (A : Option Addr) (C : Nat) (xs : List α) : Ro := Ro.rep K.slice [.slice A xs.length C] xs

/-! ## Owned parts -/
/-- a variable in memory -/
def Ass.box (T : TypeId) (g : Nat) (cs : List Value) : Ass :=
  ⟨fun w F _ => w.heap[g]? = some (.cells cs.toArray T (0, 0)) ∧ ∀ k, F k ↔ k = g, fun h hk _ => ⟨(hk g (.inl ((h.2 g).2 rfl))).trans h.1, h.2⟩⟩

/-- an owned row, from some place on -/
def Row (w : World) (e : TypeId) (sz : Nat) (v : Value) (n : Nat) (xs : List Value) : Prop :=
  xs.length = n * sz ∧
  ((v = .slice none 0 0 ∧ n = 0) ∨
   ∃ g off cap cur, v = .slice (some ⟨g, off, none⟩) n cap ∧ w.heap[g]? = some (.cells cur e (0, 0)) ∧ n ≤ cap ∧ cap ≤ maxLen ∧ off + cap * sz ≤ cur.size ∧ (cur.toList.drop off).take (n * sz) = xs)

theorem Row.loc {w w' : World} {e : TypeId} {sz : Nat} {v : Value} {n : Nat} {xs : List Value} (h : Row w e sz v n xs) (hk : ∀ k, v.ownBlock = some k → w'.heap[k]? = w.heap[k]?) : Row w' e sz v n xs := by
  refine ⟨h.1, h.2.imp id ?_⟩
  rintro ⟨g, off, cap, cur, rfl, hg, rest⟩
  exact ⟨g, off, cap, cur, rfl, (hk g rfl).trans hg, rest⟩

def Ass.own {α : Type} (e : TypeId) (K : Kd α) (A : Option Addr) (C : Nat) (xs : List α) : Ass :=
  ⟨fun w F G => ∃ cs, RepL K w G cs xs ∧ Row w e K.n (.slice A xs.length C) xs.length cs ∧ ∀ k, F k ↔ (Value.slice A xs.length C).ownBlock = some k,
   fun ⟨cs, h1, h2, h3⟩ hk hG => ⟨cs, h1.loc (fun k h => hk k (.inr h)) hG, h2.loc (fun k h => hk k (.inl ((h3 k).2 h))), h3⟩⟩

end Go.Fw
