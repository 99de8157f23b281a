import Derived.Test.YtiilloijkbabbaaDoorFwOps
/-! Slices: what reads, what is owned; the operations on them. -/
set_option linter.unusedVariables false
set_option linter.unusedSimpArgs false
namespace Go.Fw
open Go Go.RowKit

/-- A slice that may be read: a fact, or an owned part. -/
def Rd {α : Type} (os : List Ass) (rs : List Ro) (K : Kd α) (A : Option Addr) (C : Nat) (xs : List α) : Prop :=
  (∃ k : Nat, rs[k]? = some (Ro.sl K A C xs)) ∨ ∃ (k : Nat) (e : TypeId), os[k]? = some (Ass.own e K A C xs)

theorem Rd.ro {α : Type} {os : List Ass} {rs : List Ro} {K : Kd α} {A : Option Addr} {C : Nat} {xs : List α} (k : Nat) (h : rs[k]? = some (Ro.sl K A C xs)) : Rd os rs K A C xs := .inl ⟨k, h⟩
theorem Rd.own {α : Type} {os : List Ass} {rs : List Ro} {K : Kd α} {A : Option Addr} {C : Nat} {xs : List α} (k : Nat) (e : TypeId) (h : os[k]? = some (Ass.own e K A C xs)) : Rd os rs K A C xs := .inr ⟨k, e, h⟩

/-- the cells behind a slice -/
def Cells {α : Type} (K : Kd α) (w : World) (G : Bl) (A : Option Addr) (xs : List α) : Prop :=
  xs = [] ∨ ∃ ad cs, A = some ad ∧ ad.spot = none ∧ RepL K w G cs xs ∧ ∀ j v, cs[j]? = some v → w.cell? (ad.add j) = some v

theorem Row.cells {α : Type} {K : Kd α} {w : World} {G : Bl} {e : TypeId} {A : Option Addr} {C : Nat} {xs : List α} {cs : List Value} (hr : RepL K w G cs xs) (h : Row w e K.n (.slice A xs.length C) xs.length cs) : Cells K w G A xs := by
  rcases h.2 with ⟨hv, hn⟩ | ⟨g, off, cap, cur, hv, hg, hnc, hcm, hfit, hcs⟩
  · exact .inl (List.eq_nil_of_length_eq_zero hn)
  · injection hv with h1 h2 h3
    refine .inr ⟨⟨g, off, none⟩, cs, h1, rfl, hr, fun j v hj => ?_⟩
    rw [addr_add_none, cell_of_row w g _ cur e (0, 0) hg]
    rw [← hcs, List.getElem?_take] at hj
    split at hj
    · simpa using hj
    · cases hj

theorem Row.caps {w : World} {e : TypeId} {sz : Nat} {A : Option Addr} {C n m : Nat} {cs : List Value} (h : Row w e sz (.slice A n C) n cs) (hm : m = n) : m ≤ C ∧ C ≤ maxLen ∧ (A = none → C = 0) := by
  subst hm
  rcases h.2 with ⟨hv, hn⟩ | ⟨g, off, cap, cur, hv, hg, hnc, hcm, hfit, hcs⟩
  · injection hv with h1 h2 h3
    subst h3; exact ⟨by omega, Nat.zero_le _, fun _ => rfl⟩
  · injection hv with h1 h2 h3
    subst h3; exact ⟨hnc, hcm, fun h => by rw [h1] at h; cases h⟩

section
variable {B w : World} {os : List Ass} {rs : List Ro} {α : Type} {K : Kd α} {A : Option Addr} {C : Nat} {xs : List α}

theorem St.rd (h : St B w os rs) (hr : Rd os rs K A C xs) : ∃ G : Bl, (∀ r ∈ rs, r.holds w G) ∧ Cells K w G A xs ∧ xs.length ≤ C ∧ C ≤ maxLen ∧ (A = none → C = 0) := by
  obtain ⟨G, F, h1, h2, h3, h4, h5⟩ := h.mem
  rcases hr with ⟨k, hk⟩ | ⟨k, e, hk⟩
  · have := h5 _ (List.mem_of_getElem? hk)
    obtain ⟨a, c, he, hre, hc1, hc2, hc3⟩ := this
    simp only [List.cons.injEq, Value.slice.injEq, and_true, true_and] at he
    obtain ⟨rfl, rfl⟩ := he
    refine ⟨G, h5, ?_, hc1, hc2, hc3⟩
    rcases hre with hn | ⟨ad, cs, ha, hs, _, hrep, hcell⟩
    · exact .inl hn
    · exact .inr ⟨ad, cs, ha, hs, hrep, hcell⟩
  · obtain ⟨F1, F2, ⟨cs, g1, g2, g3⟩, _⟩ := h4.pull hk
    exact ⟨G, h5, g2.cells g1, (g2.caps rfl).1, (g2.caps rfl).2⟩

theorem St.rd_some (h : St B w os rs) (hr : Rd os rs K A C xs) {i : Int} (h0 : 0 ≤ i) (h1 : i < (xs.length : Int)) : ∃ ad, A = some ad := by
  obtain ⟨G, _, hc, _⟩ := h.rd hr
  rcases hc with hn | ⟨ad, cs, ha, _⟩
  · subst hn; simp at h1; omega
  · exact ⟨ad, ha⟩

theorem St.rd_le (h : St B w os rs) (hr : Rd os rs K A C xs) : xs.length ≤ C ∧ C ≤ maxLen ∧ (A = none → C = 0) := by
  obtain ⟨G, _, _, h'⟩ := h.rd hr
  exact h'

theorem St.rd_nil (h : St B w os rs) (hr : Rd os rs K none C xs) : xs = [] := by
  obtain ⟨G, _, hc, h1, _, h2⟩ := h.rd hr
  have := h2 rfl
  subst this
  exact List.eq_nil_of_length_eq_zero (by omega)

/-- an element: its cells, and the fact on them -/
theorem St.elem (h : St B w os rs) {ad : Addr} (hr : Rd os rs K (some ad) C xs) {i : Nat} {x : α} (hx : xs[i]? = some x) :
    ∃ vs, St B w os (Ro.rep K vs x :: rs) ∧ vs.length = K.n ∧ ∀ off j v, ((vs.drop off).take j)[0]? = some v ∨ True → ∀ m u, ((vs.drop off).take j)[m]? = some u → w.cell? (((ad.add (i * K.n)).add off).add m) = some u := by
  have key : ∀ G : Bl, Cells K w G (some ad) xs → ∃ vs, K.rep w G vs x ∧ ad.spot = none ∧ ∀ m u, vs[m]? = some u → w.cell? (ad.add (i * K.n + m)) = some u := by
    intro G hc
    rcases hc with hn | ⟨ad', cs, ha, hs, hrep, hcell⟩
    · subst hn; simp at hx
    · injection ha with ha; subst ha
      obtain ⟨vs, hv, hcs⟩ := hrep.get hx
      refine ⟨vs, hv, hs, fun m u hm => hcell _ _ ?_⟩
      rw [← hcs, List.getElem?_take] at hm
      split at hm
      · simpa [List.getElem?_drop] using hm
      · cases hm
  obtain ⟨G, F, h1, h2, h3, h4, h5⟩ := h.mem
  have hG : ∃ vs, K.rep w G vs x ∧ ad.spot = none ∧ ∀ m u, vs[m]? = some u → w.cell? (ad.add (i * K.n + m)) = some u := by
    rcases hr with ⟨k, hk⟩ | ⟨k, e, hk⟩
    · obtain ⟨a, c, he, hre, hc⟩ := h5 _ (List.mem_of_getElem? hk)
      simp only [List.cons.injEq, Value.slice.injEq, and_true, true_and] at he
      obtain ⟨rfl, rfl⟩ := he
      refine key G ?_
      rcases hre with hn | ⟨ad, cs, ha, hs, _, hrep, hcell⟩
      · exact .inl hn
      · exact .inr ⟨ad, cs, ha, hs, hrep, hcell⟩
    · obtain ⟨F1, F2, ⟨cs, g1, g2, g3⟩, _⟩ := h4.pull hk
      exact key G (g2.cells g1)
  obtain ⟨vs, hv, hs, hc⟩ := hG
  refine ⟨vs, ⟨h.os_, h.tape, h.output, G, F, h1, h2, h3, h4, fun r hr' => ?_⟩, K.len hv, fun off j v _ m u hm => ?_⟩
  · rcases List.mem_cons.1 hr' with rfl | hr'
    · exact hv
    · exact h5 r hr'
  · rw [addr_add_add hs, addr_add_add hs, Nat.add_assoc]
    rw [List.getElem?_take] at hm
    split at hm
    · exact hc _ _ (by simpa [List.getElem?_drop] using hm)
    · cases hm
end

/-- the size of a slice type's elements -/
def elT (P : Program) (t : TypeId) : Option Nat := match P.underlying t with
  | some (.slice e) => sizeT P e
  | _ => none

theorem run_indexAt {P : Program} {t : TypeId} {sz : Nat} (ht : elT P t = some sz) {ad : Addr} {len C : Nat} {k : IntKind} {i : Int} (h0 : 0 ≤ i) (h1 : i < (len : Int)) (w : World) :
    (Instr.indexAt t (.slice (some ad) len C) (.int k i)).run P w = .ok (.pointer (some (ad.add (i.toNat * sz)))) w := by
  unfold elT at ht
  cases hu : P.underlying t with
  | none => rw [hu] at ht; cases ht
  | some d =>
    rw [hu] at ht
    cases d <;> try (cases ht)
    case slice e =>
      simp only at ht
      simp [Instr.indexAt, asIntOf, run_underlying hu, h0, h1, run_size ht]

section
variable {P : Program} {N : Nat} {e : Env} {ops : Array Oper} {i : Nat} {Q : Exit → Act → World → Prop} {KK : Env → World → Prop} {w B : World} {os : List Ass} {rs : List Ro} {α : Type} {K : Kd α} {A : Option Addr} {C : Nat} {xs : List α}

theorem YO.idx (t : TypeId) (sz : Nat) (ad : Addr) (len C : Nat) (k : IntKind) (j : Int) (d : Nat) (h1 : ready N e ops i = true) (h2 : opSem e ops i = some ((Instr.indexAt t (.slice (some ad) len C) (.int k j)).bind fun v => .pure (.value v))) (hd : dstOf ops i = some d)
    (ht : elT P t = some sz) (h0 : 0 ≤ j) (hlt : j < (len : Int)) : YO P N e ops i d (.pointer (some (ad.add (j.toNat * sz)))) w :=
  ⟨h1, hd, _, h2, run_indexAt ht h0 hlt w⟩

theorem getD_some {xs : List α} {j : Int} (z : α) (h0 : 0 ≤ j) (h1 : j < (xs.length : Int)) : xs[j.toNat]? = some (xs.getD j.toNat z) := by
  have : j.toNat < xs.length := by omega
  simp [List.getD, this]

/-- a load out of an element whose cells hang on the value alone -/
theorem YO.loadEl (hS : St B w os rs) (K : Kd α) (ad : Addr) (C : Nat) (xs : List α) (hr : Rd os rs K (some ad) C xs) (z : α) (enc : α → List Value) (henc : ∀ w G vs x, K.rep w G vs x → vs = enc x) (j : Int) (h0 : 0 ≤ j) (hlt : j < (xs.length : Int))
    (t : TypeId) (sz off n : Nat) (hsz : sz = K.n) (v : Value) (d : Nat) (h1 : ready N e ops i = true) (h2 : opSem e ops i = some ((Instr.loadAt t (.pointer (some ((ad.add (j.toNat * sz)).add off)))).bind fun v => .pure (.value v))) (hd : dstOf ops i = some d)
    (hp : packed P t (((enc (xs.getD j.toNat z)).drop off).take n) = some v) : YO P N e ops i d v w := by
  obtain ⟨vs, hS', hlen, hc⟩ := hS.elem hr (getD_some z h0 hlt)
  obtain ⟨G, hG⟩ := hS'.ro (List.mem_cons_self ..)
  have hvs := henc _ _ _ _ hG
  subst hsz
  refine ⟨h1, hd, _, h2, run_loadAt hp fun m u hm => ?_⟩
  rw [← hvs] at hm
  exact hc off n u (.inr trivial) m u hm

/-- a load of an element that is a slice -/
theorem EO.loadSl (hS : St B w os rs) (K : Kd α) (ad : Addr) (C : Nat) (xs : List (List α)) (hr : Rd os rs K.slice (some ad) C xs) (j : Int) (h0 : 0 ≤ j) (hlt : j < (xs.length : Int))
    (t : TypeId) (d : Nat) (h1 : ready N e ops i = true) (h2 : opSem e ops i = some ((Instr.loadAt t (.pointer (some ((ad.add (j.toNat * 1)).add 0)))).bind fun v => .pure (.value v))) (hd : dstOf ops i = some d) (ht : aggT P t = some false)
    (hk : ∀ A' C', St B w os (Ro.sl K A' C' (xs.getD j.toNat []) :: rs) → KK ((d, .slice A' (xs.getD j.toNat []).length C') :: e) w) : EO P N e ops i Q KK w := by
  obtain ⟨vs, hS', hlen, hc⟩ := hS.elem hr (getD_some [] h0 hlt)
  obtain ⟨G, hG⟩ := hS'.ro (List.mem_cons_self ..)
  obtain ⟨a, c, hvs, _⟩ := hG
  subst hvs
  have hcell := hc 0 1 undef (.inr trivial) 0 _ rfl
  exact EO.semD _ _ w d h1 h2 hd (run_loadAt_one ht (by rw [addr_add_zero] at hcell ⊢; rw [addr_add_zero] at hcell; exact hcell)) (hk a c hS')
end
end Go.Fw
