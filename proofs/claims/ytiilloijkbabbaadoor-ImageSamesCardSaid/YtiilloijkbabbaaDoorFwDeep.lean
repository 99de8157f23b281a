import Derived.Test.YtiilloijkbabbaaDoorFwMut
/-! Rows within a row, all of them owned. -/
set_option linter.unusedVariables false
set_option linter.unusedSimpArgs false
namespace Go.Fw
open Go Go.RowKit

/-! ### lists of parts: order, and several as one -/
theorem AllO.congr {w : World} {G : Bl} {os : List Ass} {F F' : Bl} (h : AllO w G os F) (hF : ∀ k, F' k ↔ F k) : AllO w G os F' := by
  have : F' = F := by funext k; exact propext (hF k)
  rw [this]; exact h

theorem AllO.split {w : World} {G : Bl} : ∀ {os' os : List Ass} {F : Bl}, AllO w G (os' ++ os) F → ∃ F1 F2, AllO w G os' F1 ∧ AllO w G os F2 ∧ (∀ k, F1 k → ¬ F2 k) ∧ ∀ k, F k ↔ F1 k ∨ F2 k
  | [], os, F, h => ⟨fun _ => False, F, fun _ h => h, h, fun _ h => h.elim, fun k => ⟨.inr, fun h => h.elim False.elim id⟩⟩
  | A :: l, os, F, ⟨F1, F2, h1, h2, h3, h4⟩ => by
    obtain ⟨F3, F4, g1, g2, g3, g4⟩ := AllO.split h2
    refine ⟨fun k => F1 k ∨ F3 k, F4, ⟨F1, F3, h1, g1, fun k hk hk' => h3 k hk ((g4 k).2 (.inl hk')), fun _ => Iff.rfl⟩, g2, fun k hk hk' => ?_, fun k => ?_⟩
    · rcases hk with hk | hk
      · exact h3 k hk ((g4 k).2 (.inr hk'))
      · exact g3 k hk hk'
    · rw [h4, g4, or_assoc]

theorem AllO.perm {w : World} {G : Bl} {os os' : List Ass} (hp : os.Perm os') : ∀ {F : Bl}, AllO w G os F → AllO w G os' F := by
  induction hp with
  | nil => exact fun h => h
  | cons A _ ih => exact fun ⟨F1, F2, h1, h2, h3, h4⟩ => ⟨F1, F2, h1, ih h2, h3, h4⟩
  | swap A A' l =>
    intro F ⟨F1, F2, h1, ⟨F3, F4, g1, g2, g3, g4⟩, h3, h4⟩
    refine ⟨F3, fun k => F1 k ∨ F4 k, g1, ⟨F1, F4, h1, g2, fun k hk hk' => h3 k hk ((g4 k).2 (.inr hk')), fun _ => Iff.rfl⟩, fun k hk hk' => ?_, fun k => ?_⟩
    · rcases hk' with hk' | hk'
      · exact h3 k hk' ((g4 k).2 (.inl hk))
      · exact g3 k hk hk'
    · rw [h4, g4]
      exact ⟨or3, or3⟩
  | trans _ _ ih1 ih2 => exact fun h => ih2 (ih1 h)

/-- several parts as one -/
def Ass.ex {β : Type} (p : β → Prop) (l : β → List Ass) : Ass :=
  ⟨fun w F G => ∃ b, p b ∧ AllO w G (l b) F, fun ⟨b, hb, h⟩ hk hG => ⟨b, hb, h.loc hk hG⟩⟩

section
variable {B w : World} {os os' : List Ass} {rs : List Ro}

theorem St.map (h : St B w os rs) (f : ∀ G F, AllO w G os F → AllO w G os' F) : St B w os' rs := by
  obtain ⟨G, F, h1, h2, h3, h4, h5⟩ := h.mem
  exact ⟨h.os_, h.tape, h.output, G, F, h1, h2, h3, f G F h4, h5⟩

theorem St.perm (h : St B w os rs) (hp : os.Perm os') : St B w os' rs := h.map fun _ _ h => h.perm hp

theorem St.unex {β : Type} {p : β → Prop} {l : β → List Ass} (h : St B w (Ass.ex p l :: os) rs) : ∃ b, p b ∧ St B w (l b ++ os) rs := by
  obtain ⟨G, F, h1, h2, h3, ⟨F1, F2, ⟨b, hb, g1⟩, g2, g3, g4⟩, h5⟩ := h.mem
  exact ⟨b, hb, h.os_, h.tape, h.output, G, F, h1, h2, h3, (AllO.append g2 g1 g3).congr g4, h5⟩

theorem St.toex {β : Type} {p : β → Prop} {l : β → List Ass} (b : β) (hb : p b) (h : St B w (l b ++ os) rs) : St B w (Ass.ex p l :: os) rs :=
  h.map fun G F h => by
    obtain ⟨F1, F2, g1, g2, g3, g4⟩ := h.split
    exact ⟨F1, F2, ⟨b, hb, g1⟩, g2, g3, g4⟩

theorem perm_erase {os : List Ass} {k : Nat} {A : Ass} (hk : os[k]? = some A) : os.Perm (A :: os.eraseIdx k) := by
  induction os generalizing k with
  | nil => simp at hk
  | cons B l ih =>
    cases k with
    | zero => simp at hk; subst hk; exact List.Perm.refl _
    | succ k =>
      have := ih (k := k) (by simpa using hk)
      exact ((List.Perm.cons B this).trans (List.Perm.swap A B _))

theorem perm_set {os : List Ass} {k : Nat} {A A' : Ass} (hk : os[k]? = some A) : (A' :: os.eraseIdx k).Perm (os.set k A') := by
  have hlt : k < os.length := (List.getElem?_eq_some_iff.1 hk).1
  have := perm_erase (os := os.set k A') (k := k) (A := A') (by simp [hlt])
  have e : (os.set k A').eraseIdx k = os.eraseIdx k := by
    rw [List.eraseIdx_eq_take_drop_succ, List.eraseIdx_eq_take_drop_succ, List.take_set, List.drop_set_of_lt (by omega)]
    congr 1
    rw [List.set_eq_of_length_le (by simp; omega)]
  rw [e] at this
  exact this.symm
end

theorem St.as {B w : World} {os os' : List Ass} {rs : List Ro} (h : St B w os rs) (ho : os = os') : St B w os' rs := ho ▸ h

/-! ### the heads of slices -/
abbrev Hdr := Option Addr × Nat × Nat
def Kd.hdr : Kd Hdr := ⟨1, fun _ _ vs x => vs = [.slice x.1 x.2.1 x.2.2], by rintro _ _ _ _ rfl; rfl, by rintro _ _ _ _ rfl v hv; simp at hv; subst hv; rfl, fun h _ _ => h⟩
def encH (h : Hdr) : List Value := [.slice h.1 h.2.1 h.2.2]
theorem encH_of (w : World) (G : Bl) (vs : List Value) (x : Hdr) (h : Kd.hdr.rep w G vs x) : vs = encH x := h
theorem Plain.hdr : Plain Kd.hdr := fun _ _ _ _ _ h => h

section
variable {α : Type}
def inners (et : TypeId) (K : Kd α) : List Hdr → List (List α) → List Ass
  | h :: hs, x :: xs => Ass.own et K h.1 h.2.2 x :: inners et K hs xs
  | _, _ => []
def Fits : List Hdr → List (List α) → Prop
  | [], [] => True
  | h :: hs, x :: xs => h.2.1 = x.length ∧ Fits hs xs
  | _, _ => False

theorem Fits.length : ∀ {hs : List Hdr} {xs : List (List α)}, Fits hs xs → hs.length = xs.length
  | [], [], _ => rfl
  | _ :: hs, _ :: xs, h => by rw [List.length_cons, List.length_cons, Fits.length h.2]
theorem Fits.append : ∀ {hs hs' : List Hdr} {xs xs' : List (List α)}, Fits hs xs → Fits hs' xs' → Fits (hs ++ hs') (xs ++ xs')
  | [], _, [], _, _, h' => h'
  | _ :: hs, _, _ :: xs, _, h, h' => ⟨h.1, Fits.append h.2 h'⟩
theorem inners_append {et : TypeId} {K : Kd α} : ∀ {hs hs' : List Hdr} {xs xs' : List (List α)}, hs.length = xs.length → inners et K (hs ++ hs') (xs ++ xs') = inners et K hs xs ++ inners et K hs' xs'
  | [], _, [], _, _ => rfl
  | h :: hs, _, x :: xs, _, e => by
    show _ :: inners et K (hs ++ _) (xs ++ _) = _ :: (inners et K hs xs ++ _)
    rw [inners_append (by simpa using e)]

/-- the row at a place -/
theorem Fits.cut : ∀ {hs : List Hdr} {xs : List (List α)} {i : Nat} {y : List α}, Fits hs xs → xs[i]? = some y →
    ∃ hs1 h hs2 xs1 xs2, hs = hs1 ++ h :: hs2 ∧ xs = xs1 ++ y :: xs2 ∧ hs1.length = i ∧ xs1.length = i ∧ Fits hs1 xs1 ∧ Fits hs2 xs2 ∧ h.2.1 = y.length
  | [], [], i, y, _, hy => by simp at hy
  | h :: hs, x :: xs, 0, y, hf, hy => by
    simp at hy; subst hy
    exact ⟨[], h, hs, [], xs, rfl, rfl, rfl, rfl, trivial, hf.2, hf.1⟩
  | h :: hs, x :: xs, i + 1, y, hf, hy => by
    obtain ⟨hs1, g, hs2, xs1, xs2, e1, e2, l1, l2, f1, f2, e3⟩ := Fits.cut (i := i) hf.2 (by simpa using hy)
    exact ⟨h :: hs1, g, hs2, x :: xs1, xs2, by rw [e1]; rfl, by rw [e2]; rfl, by simp [l1], by simp [l2], ⟨hf.1, f1⟩, f2, e3⟩

/-- rows within a row, all of them owned -/
def Ass.deep (et et' : TypeId) (K : Kd α) (A : Option Addr) (C : Nat) (xs : List (List α)) : Ass :=
  Ass.ex (fun hs : List Hdr => Fits hs xs) (fun hs => Ass.own et Kd.hdr A C hs :: inners et' K hs xs)
/-- the same, without the row at a place; its head is told -/
def Ass.holed (et et' : TypeId) (K : Kd α) (A : Option Addr) (C : Nat) (xs : List (List α)) (i : Nat) (h : Hdr) : Ass :=
  Ass.ex (fun p : (List Hdr × List Hdr) × List (List α) × List α × List (List α) => xs = p.2.1 ++ p.2.2.1 :: p.2.2.2 ∧ p.1.1.length = i ∧ p.2.1.length = i ∧ Fits p.1.1 p.2.1 ∧ Fits p.1.2 p.2.2.2)
    (fun p => Ass.own et Kd.hdr A C (p.1.1 ++ h :: p.1.2) :: (inners et' K p.1.1 p.2.1 ++ inners et' K p.1.2 p.2.2.2))
end

section
variable {B w : World} {os : List Ass} {rs : List Ro} {α : Type} {K : Kd α} {et et' : TypeId} {A : Option Addr} {C : Nat} {xs : List (List α)}

/-- take a row out -/
theorem St.open (h : St B w os rs) (k : Nat) (hk : os[k]? = some (Ass.deep et et' K A C xs)) {i : Nat} {y : List α} (hy : xs[i]? = some y) :
    ∃ a c, St B w (Ass.own et' K a c y :: os.set k (Ass.holed et et' K A C xs i (a, y.length, c))) rs := by
  obtain ⟨hs, hf, h'⟩ := (h.pull k hk).unex
  obtain ⟨hs1, g, hs2, xs1, xs2, rfl, rfl, l1, l2, f1, f2, e3⟩ := hf.cut hy
  obtain ⟨a, n, c⟩ := g
  simp only at e3
  subst e3
  refine ⟨a, c, ?_⟩
  have hp : (Ass.own et' K a c y :: Ass.holed et et' K A C (xs1 ++ y :: xs2) i (a, y.length, c) :: os.eraseIdx k).Perm (Ass.own et' K a c y :: os.set k (Ass.holed et et' K A C (xs1 ++ y :: xs2) i (a, y.length, c))) := (perm_set hk).cons _
  refine St.perm ?_ hp
  refine St.perm (os := Ass.holed et et' K A C (xs1 ++ y :: xs2) i (a, y.length, c) :: Ass.own et' K a c y :: os.eraseIdx k) ?_ (List.Perm.swap _ _ _)
  refine St.toex ((hs1, hs2), xs1, y, xs2) ⟨rfl, l1, l2, f1, f2⟩ ?_
  refine h'.perm ?_
  rw [inners_append (by rw [l1, l2])]
  show (Ass.own et Kd.hdr A C (hs1 ++ (a, y.length, c) :: hs2) :: ((inners et' K hs1 xs1 ++ Ass.own et' K a c y :: inners et' K hs2 xs2) ++ os.eraseIdx k)).Perm (Ass.own et Kd.hdr A C (hs1 ++ (a, y.length, c) :: hs2) :: ((inners et' K hs1 xs1 ++ inners et' K hs2 xs2) ++ Ass.own et' K a c y :: os.eraseIdx k))
  refine List.Perm.cons _ ?_
  rw [List.append_assoc, List.append_assoc]
  refine List.Perm.append_left _ ?_
  rw [List.cons_append]
  exact List.perm_middle.symm

theorem set_mid {β : Type} {l1 l2 : List β} {y z : β} {i : Nat} (h : l1.length = i) : (l1 ++ y :: l2).set i z = l1 ++ z :: l2 := by
  subst h
  simp

/-- put a row back under its head -/
theorem St.close (h : St B w os rs) (p k : Nat) {i : Nat} {a : Option Addr} {n c : Nat} {ys : List α} (hp : os[p]? = some (Ass.own et' K a c ys)) (hk : (os.eraseIdx p)[k]? = some (Ass.holed et et' K A C xs i (a, n, c))) (hn : ys.length = n)
    (zs : List (List α)) (hz : zs = xs.set i ys) : St B w ((os.eraseIdx p).set k (Ass.deep et et' K A C zs)) rs := by
  subst hn hz
  have h1 := (h.pull p hp).pull (k + 1) (by simpa using hk)
  simp only [List.eraseIdx_cons_succ] at h1
  obtain ⟨⟨⟨hs1, hs2⟩, xs1, y, xs2⟩, ⟨e, l1, l2, f1, f2⟩, h2⟩ := h1.unex
  simp only at e l1 l2 f1 f2 h2
  subst e
  rw [set_mid l2]
  refine St.perm ?_ (perm_set hk)
  refine St.toex (hs1 ++ (a, ys.length, c) :: hs2) (Fits.append f1 ⟨rfl, f2⟩) (h2.perm ?_)
  rw [inners_append (by rw [l1, l2])]
  show (Ass.own et Kd.hdr A C (hs1 ++ (a, ys.length, c) :: hs2) :: ((inners et' K hs1 xs1 ++ inners et' K hs2 xs2) ++ Ass.own et' K a c ys :: _)).Perm (Ass.own et Kd.hdr A C (hs1 ++ (a, ys.length, c) :: hs2) :: ((inners et' K hs1 xs1 ++ Ass.own et' K a c ys :: inners et' K hs2 xs2) ++ _))
  refine List.Perm.cons _ ?_
  rw [List.append_assoc, List.append_assoc]
  refine List.Perm.append_left _ ?_
  rw [List.cons_append]
  exact List.perm_middle

/-- nothing within -/
theorem St.nilDeep (h : St B w os rs) (et et' : TypeId) (K : Kd α) : St B w (Ass.deep et et' K none 0 [] :: os) rs :=
  St.toex [] trivial (h.nilO et Kd.hdr)

/-- rows under the heads that a row holds -/
theorem St.fold {hs : List Hdr} (hf : Fits hs xs) (h : St B w (Ass.own et Kd.hdr A C hs :: (inners et' K hs xs ++ os)) rs) : St B w (Ass.deep et et' K A C xs :: os) rs :=
  St.toex hs hf h

theorem St.nils (h : St B w os rs) (et : TypeId) (K : Kd α) : ∀ n, St B w (inners et K (List.replicate n ((none, 0, 0) : Hdr)) (List.replicate n []) ++ os) rs
  | 0 => h
  | n + 1 => (St.nils h et K n).nilO et K
theorem Fits.nils : ∀ n, Fits (List.replicate n ((none, 0, 0) : Hdr)) (List.replicate n ([] : List α))
  | 0 => trivial
  | n + 1 => ⟨rfl, Fits.nils n⟩

/-- rows that were appended -/
theorem St.joinDeep {hs hs' : List Hdr} {xs' : List (List α)} (hf : Fits hs xs) (hf' : Fits hs' xs') (h : St B w (Ass.own et Kd.hdr A C (hs ++ hs') :: (inners et' K hs xs ++ (inners et' K hs' xs' ++ os))) rs) : St B w (Ass.deep et et' K A C (xs ++ xs') :: os) rs := by
  refine St.toex (hs ++ hs') (hf.append hf') ?_
  rw [inners_append hf.length]
  refine h.perm (List.Perm.cons _ ?_)
  show (inners et' K hs xs ++ (inners et' K hs' xs' ++ os)).Perm ((inners et' K hs xs ++ inners et' K hs' xs') ++ os)
  rw [List.append_assoc]

/-! ### a deep row that is read -/
/-- what is owned reads -/
theorem own_reads {e : TypeId} {xs : List α} {F G G' : Bl} (h : (Ass.own e K A C xs).holds w F G) (hG : ∀ k, G k → G' k) (hF : ∀ k, F k → G' k) : Reads K w G' A xs ∧ xs.length ≤ C ∧ C ≤ maxLen ∧ (A = none → C = 0) := by
  obtain ⟨cs, g1, g2, g3⟩ := h
  refine ⟨?_, g2.caps rfl⟩
  rcases g2.cells g1 with hn | ⟨ad, cs', ha, hs, hr, hc⟩
  · exact .inl hn
  · exact .inr ⟨ad, cs', ha, hs, hF _ ((g3 _).2 (by rw [ha]; rfl)), hr.loc (fun _ _ => rfl) hG, hc⟩

theorem inners_reads {G G' : Bl} : ∀ {hs : List Hdr} {xs : List (List α)} {F : Bl} {cs : List Value}, Fits hs xs → AllO w G (inners et' K hs xs) F → (∀ k, G k → G' k) → (∀ k, F k → G' k) → RepL Kd.hdr w G cs hs → RepL (Kd.slice K) w G' cs xs
  | [], [], F, cs, _, _, _, _, h => h
  | h :: hs, x :: xs, F, cs, hf, ⟨F1, F2, h1, h2, h3, h4⟩, hG, hF, ⟨a, b, e, ha, hb⟩ => by
    obtain ⟨hr, hc⟩ := own_reads h1 hG (fun k hk => hF k ((h4 k).2 (.inl hk)))
    have ha' : a = [.slice h.1 h.2.1 h.2.2] := ha
    exact ⟨a, b, e, ⟨h.1, h.2.2, by rw [ha', hf.1], hr, hc⟩, inners_reads hf.2 h2 hG (fun k hk => hF k ((h4 k).2 (.inr hk))) hb⟩

theorem deep_reads {F G G' : Bl} (h : (Ass.deep et et' K A C xs).holds w F G) (hG : ∀ k, G k → G' k) (hF : ∀ k, F k → G' k) : (Ro.sl (Kd.slice K) A C xs).holds w G' := by
  obtain ⟨hs, hf, F1, F2, ⟨cs, g1, g2, g3⟩, h2, h3, h4⟩ := h
  have hl := hf.length
  obtain ⟨c1, c2, c3⟩ := g2.caps (m := xs.length) hl.symm
  refine ⟨A, C, rfl, ?_, c1, c2, c3⟩
  have hr := inners_reads hf h2 hG (fun k hk => hF k ((h4 k).2 (.inr hk))) g1
  rcases g2.cells g1 with hn | ⟨ad, cs', ha, hs, hr', hc⟩
  · subst hn
    left
    exact List.eq_nil_of_length_eq_zero (by simpa using hl.symm)
  · have e2 := inners_reads hf h2 hG (fun k hk => hF k ((h4 k).2 (.inr hk))) hr'
    exact .inr ⟨ad, cs', ha, hs, hF _ ((h4 _).2 (.inl ((g3 _).2 (by rw [ha]; rfl)))), e2, hc⟩

theorem St.frDeep (h : St B w os rs) (k : Nat) (hk : os[k]? = some (Ass.deep et et' K A C xs)) : St B w (os.eraseIdx k) (Ro.sl (Kd.slice K) A C xs :: rs) :=
  h.freeze k hk fun F G hd => deep_reads hd (fun _ h => .inl h) (fun _ h => .inr h)

theorem AllO.solidI (hK : Plain K) {G G' : Bl} : ∀ {hs : List Hdr} {xs : List (List α)} {F : Bl}, AllO w G (inners et' K hs xs) F → AllO w G' (inners et' K hs xs) F
  | [], xs, F, h => h
  | h :: hs, [], F, h1 => h1
  | h :: hs, x :: xs, F, ⟨F1, F2, h1, h2, h3, h4⟩ => ⟨F1, F2, Solid.own hK _ _ _ _ h1, AllO.solidI hK h2, h3, h4⟩
theorem Solid.deep (hK : Plain K) : Solid (Ass.deep et et' K A C xs) := fun w F G G' ⟨hs, hf, F1, F2, h1, h2, h3, h4⟩ => ⟨hs, hf, F1, F2, Solid.own Plain.hdr _ _ _ _ h1, AllO.solidI hK h2, h3, h4⟩

theorem St.deep_some (h : St B w os rs) (k : Nat) (hk : os[k]? = some (Ass.deep et et' K A C xs)) {i : Int} (h0 : 0 ≤ i) (h1 : i < (xs.length : Int)) : ∃ ad, A = some ad := by
  obtain ⟨hs, hf, h'⟩ := (h.pull k hk).unex
  exact h'.rd_some (.own 0 et rfl) h0 (by rw [hf.length]; exact h1)
theorem St.deep_nil (h : St B w os rs) (k : Nat) (hk : os[k]? = some (Ass.deep et et' K none C xs)) : xs = [] := by
  obtain ⟨hs, hf, h'⟩ := (h.pull k hk).unex
  have := h'.rd_nil (.own 0 et rfl)
  subst this
  exact List.eq_nil_of_length_eq_zero hf.length.symm
theorem St.holed_some (h : St B w os rs) (k : Nat) {i : Nat} {hd : Hdr} (hk : os[k]? = some (Ass.holed et et' K A C xs i hd)) : ∃ ad, A = some ad := by
  obtain ⟨⟨⟨hs1, hs2⟩, xs1, y, xs2⟩, ⟨e, l1, l2, f1, f2⟩, h'⟩ := (h.pull k hk).unex
  exact h'.rd_some (i := 0) (.own 0 et rfl) (Int.le_refl _) (by simp; omega)
end

/-! ### lending them -/
/-- a fact that may be lent: what is only read, what is owned, rows within rows -/
inductive Lend (os : List Ass) (rs : List Ro) : Ro → Prop where
  | ro {r : Ro} (j : Nat) (h : rs[j]? = some r) : Lend os rs r
  | own {α : Type} {K : Kd α} {et : TypeId} {A : Option Addr} {C : Nat} {xs : List α} (k : Nat) (h : os[k]? = some (Ass.own et K A C xs)) : Lend os rs (Ro.sl K A C xs)
  | deep {α : Type} {K : Kd α} {et et' : TypeId} {A : Option Addr} {C : Nat} {xs : List (List α)} (k : Nat) (h : os[k]? = some (Ass.deep et et' K A C xs)) : Lend os rs (Ro.sl (Kd.slice K) A C xs)
def LendL (os : List Ass) (rs : List Ro) : List Ro → Prop
  | [] => True
  | r :: l => Lend os rs r ∧ LendL os rs l
theorem LendL.get {os : List Ass} {rs : List Ro} : ∀ {l : List Ro}, LendL os rs l → ∀ r ∈ l, Lend os rs r
  | r :: l, h, r', hr => by
    rcases List.mem_cons.1 hr with rfl | hr
    · exact h.1
    · exact h.2.get r' hr

theorem St.lend2 {B w : World} {os : List Ass} {rs : List Ro} (h : St B w os rs) (l : List Ro) (hl : LendL os rs l) : St w w [] l := by
  refine St.start w fun r hr => ?_
  obtain ⟨G, F, h1, h2, h3, h4, h5⟩ := h.mem
  cases hl.get r hr with
  | ro j hj => exact r.loc (h5 r (List.mem_of_getElem? hj)) (fun _ _ => rfl) (fun k hk => h1 k (.inl hk))
  | own k hk =>
    obtain ⟨F1, F2, g, _, _, g4⟩ := h4.pull hk
    obtain ⟨hr, hc⟩ := own_reads g (fun k hk => h1 k (.inl hk)) (fun x hx => h1 x (.inr ((g4 x).2 (.inl hx))))
    exact ⟨_, _, rfl, hr, hc⟩
  | deep k hk =>
    obtain ⟨F1, F2, g, _, _, g4⟩ := h4.pull hk
    exact deep_reads g (fun k hk => h1 k (.inl hk)) (fun x hx => h1 x (.inr ((g4 x).2 (.inl hx))))

/-! ### operations -/
section
variable {P : Program} {N : Nat} {e : Env} {ops : Array Oper} {i : Nat} {Q : Exit → Act → World → Prop} {KK : Env → World → Prop} {w B : World} {os : List Ass} {rs : List Ro} {α : Type} {K : Kd α} {et et' : TypeId} {C : Nat} {xs : List (List α)}

/-- the head at the hole -/
theorem YO.loadHole (hS : St B w os rs) (k : Nat) (ad : Addr) {j : Int} {hd : Hdr} (hk0 : os[k]? = some (Ass.holed et et' K (some ad) C xs j.toNat hd)) (h0 : 0 ≤ j) (t : TypeId) (d : Nat) (h1 : ready N e ops i = true)
    (h2 : opSem e ops i = some ((Instr.loadAt t (.pointer (some ((ad.add (j.toNat * 1)).add 0)))).bind fun v => .pure (.value v))) (hd' : dstOf ops i = some d) (ht : aggT P t = some false) : YO P N e ops i d (.slice hd.1 hd.2.1 hd.2.2) w := by
  obtain ⟨⟨⟨hs1, hs2⟩, xs1, y, xs2⟩, ⟨e, l1, l2, f1, f2⟩, h'⟩ := (hS.pull k hk0).unex
  simp only at l1 l2 h'
  have hg : (hs1 ++ hd :: hs2).getD j.toNat (none, 0, 0) = hd := by rw [← l1]; simp [List.getD]
  refine YO.loadEl h' Kd.hdr ad C _ (.own 0 et rfl) (none, 0, 0) encH encH_of j h0 (by simp; omega) t 1 0 1 rfl _ d h1 h2 hd' ?_
  rw [hg]
  show packed P t [.slice hd.1 hd.2.1 hd.2.2] = _
  unfold packed
  rw [ht]

/-- a head is read: its row is taken out -/
theorem EO.openEl (hS : St B w os rs) (k : Nat) (ad : Addr) (hk0 : os[k]? = some (Ass.deep et et' K (some ad) C xs)) (j : Int) (h0 : 0 ≤ j) (hlt : j < (xs.length : Int)) (os' : Option Addr → Nat → List Ass) (t : TypeId) (d : Nat) (h1 : ready N e ops i = true)
    (h2 : opSem e ops i = some ((Instr.loadAt t (.pointer (some ((ad.add (j.toNat * 1)).add 0)))).bind fun v => .pure (.value v))) (hd : dstOf ops i = some d) (ht : aggT P t = some false)
    (hos : ∀ A' C', os.set k (Ass.holed et et' K (some ad) C xs j.toNat (A', (xs.getD j.toNat []).length, C')) = os' A' C')
    (hk : ∀ A' C', St B w (Ass.own et' K A' C' (xs.getD j.toNat []) :: os' A' C') rs → KK ((d, .slice A' (xs.getD j.toNat []).length C') :: e) w) : EO P N e ops i Q KK w := by
  obtain ⟨a, c, hS'⟩ := hS.open k hk0 (getD_some [] h0 hlt)
  have hlt' : k < os.length := (List.getElem?_eq_some_iff.1 hk0).1
  refine EO.Y (YO.loadHole hS' (k + 1) ad (j := j) (by simp [hlt']; rfl) h0 t d h1 h2 hd ht) (hk a c ?_)
  rw [← hos]; exact hS'

/-- a head is written, over the hole: its row is there -/
theorem EO.closeEl (hS : St B w os rs) (p k : Nat) (ad : Addr) {n c c0 : Nat} {a a0 : Option Addr} {ys : List α} (j : Int) (hp : os[p]? = some (Ass.own et' K a c ys)) (hk0 : (os.eraseIdx p)[k]? = some (Ass.holed et et' K (some ad) C xs j.toNat (a0, n, c0))) (h0 : 0 ≤ j)
    (zs : List (List α)) (hz : zs = xs.set j.toNat ys) (os' : List Ass) (t : TypeId) (h1 : ready N e ops i = true)
    (h2 : opSem e ops i = some ((Instr.storeAt t (.pointer (some ((ad.add (j.toNat * 1)).add 0))) (.slice a ys.length c)).bind fun _ => .pure .skip)) (hd : dstOf ops i = none) (hs : sizeT P t = some 1)
    (hos : (os.eraseIdx p).set k (Ass.deep et et' K (some ad) C zs) = os') (hk : ∀ w', St B w' os' rs → KK e w') : EO P N e ops i Q KK w := by
  subst hz hos
  have h3 := (hS.pull p hp).pull (k + 1) (by simpa using hk0)
  simp only [List.eraseIdx_cons_succ] at h3
  obtain ⟨⟨⟨hs1, hs2⟩, xs1, y, xs2⟩, ⟨e, l1, l2, f1, f2⟩, h4⟩ := h3.unex
  simp only at e l1 l2 f1 f2 h4
  refine EO.storeEl (zs := hs1 ++ (a, ys.length, c) :: hs2) h4 0 Kd.hdr et ad C _ rfl j h0 (by simp; omega) (none, 0, 0) t 1 0 rfl (.slice a ys.length c) (a, ys.length, c) (set_mid l1).symm _ h1 h2 hd hs (by rfl) (by rfl) (fun w G vs hr h => ?_) rfl fun w' hS' => hk w' ?_
  · exact set_whole h rfl rfl
  · subst e
    rw [set_mid l2]
    refine St.perm ?_ (perm_set hk0)
    refine St.toex (hs1 ++ (a, ys.length, c) :: hs2) (Fits.append f1 ⟨rfl, f2⟩) (hS'.perm ?_)
    rw [inners_append (by rw [l1, l2])]
    show (Ass.own et Kd.hdr _ C (hs1 ++ (a, ys.length, c) :: hs2) :: ((inners et' K hs1 xs1 ++ inners et' K hs2 xs2) ++ Ass.own et' K a c ys :: _)).Perm (Ass.own et Kd.hdr _ C (hs1 ++ (a, ys.length, c) :: hs2) :: ((inners et' K hs1 xs1 ++ Ass.own et' K a c ys :: inners et' K hs2 xs2) ++ _))
    refine List.Perm.cons _ ?_
    rw [List.append_assoc, List.append_assoc]
    refine List.Perm.append_left _ ?_
    rw [List.cons_append]
    exact List.perm_middle

/-- rows within rows are appended -/
theorem EO.appendDeep (hS : St B w os rs) (t ty : TypeId) (by_ : Nat) (k k2 : Nat) (K : Kd α) (A : Option Addr) (C : Nat) (xs : List (List α)) (hk0 : os[k]? = some (Ass.deep et et' K A C xs)) (A2 : Option Addr) (C2 : Nat) (ys : List (List α)) (hk2 : (os.eraseIdx k)[k2]? = some (Ass.deep et et' K A2 C2 ys)) (zs : List (List α)) (hz : zs = xs ++ ys) (os' : Option Addr → Nat → List Ass) (d : Nat)
    (h1 : ready N e ops i = true) (h2 : opSem e ops i = some ((Builtin.append_ #[t, t] ty #[.slice A xs.length C, .slice A2 ys.length C2]).bind fun v => .pure (.value v))) (hd : dstOf ops i = some d) (ht : appT P t = some (et, 1, by_))
    (hlim : (xs.length + ys.length) * by_ ≤ 140737488355328) (hos : ∀ A' C', Ass.deep et et' K A' C' zs :: (os.eraseIdx k).eraseIdx k2 = os' A' C')
    (hk : ∀ A' C' w', St B w' (os' A' C') rs → KK ((d, .slice A' zs.length C') :: e) w') : EO P N e ops i Q KK w := by
  subst hz
  have h3 := (hS.pull k hk0).pull (k2 + 1) (by simpa using hk2)
  simp only [List.eraseIdx_cons_succ] at h3
  obtain ⟨hs2, f2, h4⟩ := h3.unex
  have h5 : St B w (Ass.deep et et' K A C xs :: (Ass.own et Kd.hdr A2 C2 hs2 :: inners et' K hs2 ys ++ (os.eraseIdx k).eraseIdx k2)) rs := h4.perm (by
    exact List.perm_middle)
  obtain ⟨hs1, f1, h6⟩ := h5.unex
  have e1 := f1.length
  have e2 := f2.length
  have h7 : St B w (Ass.own et Kd.hdr A C hs1 :: Ass.own et Kd.hdr A2 C2 hs2 :: (inners et' K hs1 xs ++ (inners et' K hs2 ys ++ (os.eraseIdx k).eraseIdx k2))) rs := h6.perm (by
    show (Ass.own et Kd.hdr A C hs1 :: (inners et' K hs1 xs ++ Ass.own et Kd.hdr A2 C2 hs2 :: (inners et' K hs2 ys ++ _))).Perm _
    exact List.Perm.cons _ List.perm_middle)
  refine EO.append h7 t ty et by_ 0 Kd.hdr A C hs1 rfl A2 C2 hs2 (.own 1 et rfl) _ rfl (fun A' C' => _) d h1 (by rw [e1, e2]; exact h2) hd ht (by rw [e1, e2]; exact hlim) (fun _ _ => rfl) fun A' C' w' hS' => ?_
  have e3 : (hs1 ++ hs2).length = (xs ++ ys).length := by simp [e1, e2]
  rw [e3]
  refine hk A' C' w' ?_
  rw [← hos]
  exact St.joinDeep f1 f2 (hS'.dropO 1 rfl)
end
theorem set_getD {β : Type} (xs : List (List β)) (i : Nat) : xs = xs.set i (xs.getD i []) := by
  apply List.ext_getElem?
  intro j
  rw [List.getElem?_set]
  by_cases h : i = j
  · subst h
    rw [if_pos rfl]
    by_cases h2 : i < xs.length
    · rw [if_pos h2]; simp [List.getD, h2]
    · rw [if_neg h2]; simp at h2; simp [h2]
  · rw [if_neg h]
theorem St.madeDeep {B w : World} {os : List Ass} {rs : List Ro} {α : Type} {K : Kd α} {et et' : TypeId} {A : Option Addr} {C n : Nat} (h : St B w (Ass.own et Kd.hdr A C (List.replicate n ((none, 0, 0) : Hdr)) :: os) rs) : St B w (Ass.deep et et' K A C (List.replicate n []) :: os) rs := by
  refine St.fold (Fits.nils n) ?_
  refine (St.nils h et' K n).perm ?_
  exact List.perm_middle

/-! ### an element that holds slices -/
theorem EO.loadPt {P : Program} {N : Nat} {e : Env} {ops : Array Oper} {i : Nat} {Q : Exit → Act → World → Prop} {KK : Env → World → Prop} {w B : World} {os : List Ass} {rs : List Ro} {α β : Type} (hS : St B w os rs) (K : Kd α) (ad : Addr) (C : Nat) (xs : List α) (hr : Rd os rs K (some ad) C xs) (z : α)
    (cells : α → β → List Value) (facts : α → β → List Ro) (hparts : ∀ (w : World) (G : Bl) (vs : List Value) (x : α), K.rep w G vs x → ∃ b, vs = cells x b ∧ ∀ r ∈ facts x b, r.holds w G) (j : Int) (h0 : 0 ≤ j) (hlt : j < (xs.length : Int))
    (t : TypeId) (sz off n : Nat) (hsz : sz = K.n) (v : β → Value) (d : Nat) (h1 : ready N e ops i = true) (h2 : opSem e ops i = some ((Instr.loadAt t (.pointer (some ((ad.add (j.toNat * sz)).add off)))).bind fun v => .pure (.value v))) (hd : dstOf ops i = some d)
    (hp : ∀ b, packed P t (((cells (xs.getD j.toNat z) b).drop off).take n) = some (v b)) (hk : ∀ b, St B w os (facts (xs.getD j.toNat z) b ++ rs) → KK ((d, v b) :: e) w) : EO P N e ops i Q KK w := by
  obtain ⟨vs, hS', hlen, hc⟩ := hS.elem hr (getD_some z h0 hlt)
  subst hsz
  obtain ⟨G, F, g1, g2, g3, g4, g5⟩ := hS'.mem
  obtain ⟨b, hb, hf⟩ := hparts w G vs _ (g5 _ (List.mem_cons_self ..))
  subst hb
  have hS2 : St B w os (facts (xs.getD j.toNat z) b ++ rs) := ⟨hS'.os_, hS'.tape, hS'.output, G, F, g1, g2, g3, g4, fun r hr => by
    rcases List.mem_append.1 hr with hr | hr
    · exact hf r hr
    · exact g5 r (List.mem_cons_of_mem _ hr)⟩
  refine EO.semD _ _ w d h1 h2 hd (run_loadAt (hp b) fun m u hm => ?_) (hk b hS2)
  exact hc off n u (.inr trivial) m u hm
end Go.Fw
