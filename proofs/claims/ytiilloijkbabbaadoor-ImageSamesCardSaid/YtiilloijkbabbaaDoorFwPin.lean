import Derived.Test.YtiilloijkbabbaaDoorFwDeep
/-! A row of rows that are only read, but for one: its head is told, and the row under it is owned. -/
set_option linter.unusedVariables false
set_option linter.unusedSimpArgs false
namespace Go.Fw
open Go Go.RowKit

theorem St.turn {B w : World} {os : List Ass} {rs : List Ro} (h : St B w os rs) (k : Nat) {A A' : Ass} (hk : os[k]? = some A) (f : ∀ F G, (∀ r ∈ rs, r.holds w G) → A.holds w F G → A'.holds w F G) : St B w (os.set k A') rs := by
  obtain ⟨G, F, h1, h2, h3, h4, h5⟩ := h.mem
  obtain ⟨F1, F2, g1, g2, g3, g4⟩ := h4.pull hk
  exact ⟨h.os_, h.tape, h.output, G, F, h1, h2, h3, AllO.perm (perm_set hk) (F := F) ⟨F1, F2, f _ _ h5 g1, g2, g3, g4⟩, h5⟩

section
variable {α : Type}
/-- a head that is told, or a row that is only read -/
def Kd.mix (K : Kd α) : Kd (Hdr ⊕ List α) where
  n := 1
  rep w G vs x := Sum.elim (fun h : Hdr => vs = [.slice h.1 h.2.1 h.2.2]) (fun xs => K.slice.rep w G vs xs) x
  len := by
    rintro _ _ _ (h | xs) hr
    · have e : _ = [Value.slice h.1 h.2.1 h.2.2] := hr
      subst e; rfl
    · exact K.slice.len hr
  one := by
    rintro _ _ _ (h | xs) hr
    · have e : _ = [Value.slice h.1 h.2.1 h.2.2] := hr
      subst e; intro v hv; simp at hv; subst hv; rfl
    · exact K.slice.one hr
  loc := by
    rintro _ _ _ _ _ (h | xs) hr h1 h2
    · exact hr
    · exact K.slice.loc hr h1 h2
def Ass.pin (et : TypeId) (K : Kd α) (A : Option Addr) (C : Nat) (xs : List (List α)) (i : Nat) (h : Hdr) : Ass := Ass.own et K.mix A C ((xs.map Sum.inr).set i (Sum.inl h))
theorem RepL.mix {K : Kd α} {w : World} {G : Bl} : ∀ {xs : List (List α)} {cs : List Value}, RepL K.slice w G cs xs → RepL K.mix w G cs (xs.map Sum.inr)
  | [], _, h => h
  | x :: xs, _, ⟨a, b, e, ha, hb⟩ => ⟨a, b, e, ha, RepL.mix hb⟩
theorem RepL.unmix {K : Kd α} {w : World} {G : Bl} : ∀ {xs : List (List α)} {cs : List Value}, RepL K.mix w G cs (xs.map Sum.inr) → RepL K.slice w G cs xs
  | [], _, h => h
  | x :: xs, _, ⟨a, b, e, ha, hb⟩ => ⟨a, b, e, ha, RepL.unmix hb⟩
theorem RepL.unpin {K : Kd α} {w : World} {G : Bl} {h : Hdr} {ys : List α} (hy : K.slice.rep w G [.slice h.1 h.2.1 h.2.2] ys) : ∀ {xs : List (List α)} {cs : List Value} {i : Nat}, RepL K.mix w G cs ((xs.map Sum.inr).set i (Sum.inl h)) → RepL K.slice w G cs (xs.set i ys)
  | [], _, _, h => h
  | x :: xs, _, 0, ⟨a, b, e, ha, hb⟩ => ⟨a, b, e, by have e2 : a = [Value.slice h.1 h.2.1 h.2.2] := ha; subst e2; exact hy, RepL.unmix hb⟩
  | x :: xs, _, i + 1, ⟨a, b, e, ha, hb⟩ => ⟨a, b, e, ha, RepL.unpin hy hb⟩
theorem Row.as {w : World} {e : TypeId} {A : Option Addr} {C n n' : Nat} {cs : List Value} (h : Row w e 1 (.slice A n C) n cs) (hn : n = n') : Row w e 1 (.slice A n' C) n' cs := hn ▸ h
end

section
variable {P : Program} {N : Nat} {e : Env} {ops : Array Oper} {i : Nat} {Q : Exit → Act → World → Prop} {KK : Env → World → Prop} {w B : World} {os : List Ass} {rs : List Ro} {α : Type} {K : Kd α} {et et' : TypeId} {A : Option Addr} {C : Nat} {xs : List (List α)}

theorem St.toMix (h : St B w os rs) (k : Nat) (hk : os[k]? = some (Ass.own et K.slice A C xs)) : St B w (os.set k (Ass.own et K.mix A C (xs.map Sum.inr))) rs :=
  h.turn k hk fun F G _ ⟨cs, g1, g2, g3⟩ => ⟨cs, g1.mix, Row.as g2 (List.length_map _).symm, fun q => by rw [g3, List.length_map]⟩

/-- the row goes back, and is only read from here on -/
theorem St.unpin (h : St B w os rs) (p k : Nat) {i : Nat} {a : Option Addr} {n c : Nat} {ys : List α} (hp : os[p]? = some (Ass.own et' K a c ys)) (hk : (os.eraseIdx p)[k]? = some (Ass.pin et K A C xs i (a, n, c))) (hn : ys.length = n)
    (zs : List (List α)) (hz : zs = xs.set i ys) : St B w ((os.eraseIdx p).set k (Ass.own et K.slice A C zs)) (Ro.sl K a c ys :: rs) := by
  subst hn hz
  have hl : ((xs.map Sum.inr).set i (Sum.inl (a, ys.length, c)) : List (Hdr ⊕ List α)).length = (xs.set i ys).length := by simp
  refine (h.fr p hp).turn k hk fun F G hR ⟨cs, g1, g2, g3⟩ => ⟨cs, RepL.unpin (h := (a, ys.length, c)) (hR _ (List.mem_cons_self ..)) g1, Row.as g2 hl, fun q => ?_⟩
  rw [g3, hl]

/-- the head of an owned row is stored -/
theorem EO.pinEl (hS : St B w os rs) (k : Nat) (K : Kd α) (et : TypeId) (ad : Addr) (C : Nat) (xs : List (List α)) (hk0 : os[k]? = some (Ass.own et K.slice (some ad) C xs)) (j : Int) (h0 : 0 ≤ j) (hlt : j < (xs.length : Int))
    (t : TypeId) (a : Option Addr) (n c : Nat) (os' : List Ass) (h1 : ready N e ops i = true)
    (h2 : opSem e ops i = some ((Instr.storeAt t (.pointer (some ((ad.add (j.toNat * 1)).add 0))) (.slice a n c)).bind fun _ => .pure .skip)) (hd : dstOf ops i = none) (hs : sizeT P t = some 1)
    (hos : os.set k (Ass.pin et K (some ad) C xs j.toNat (a, n, c)) = os') (hk : ∀ w', St B w' os' rs → KK e w') : EO P N e ops i Q KK w := by
  have hS1 := hS.toMix k hk0
  have hlt' : k < os.length := (List.getElem?_eq_some_iff.1 hk0).1
  refine EO.storeEl hS1 k K.mix et ad C (xs.map Sum.inr) (by simp [hlt']) j h0 (by simpa using hlt) (Sum.inl (none, 0, 0)) t 1 0 rfl (.slice a n c) (Sum.inl (a, n, c)) _ rfl os' h1 h2 hd hs (by rfl) (by rfl) (fun w G vs hr h => ?_) (by rw [List.set_set]; exact hos) hk
  exact set_whole h rfl rfl

/-- the head is read -/
theorem YO.loadPin (hS : St B w os rs) (k : Nat) (ad : Addr) {j : Int} {hd : Hdr} (hk0 : os[k]? = some (Ass.pin et K (some ad) C xs j.toNat hd)) (h0 : 0 ≤ j) (hlt : j < (xs.length : Int)) (t : TypeId) (d : Nat) (h1 : ready N e ops i = true)
    (h2 : opSem e ops i = some ((Instr.loadAt t (.pointer (some ((ad.add (j.toNat * 1)).add 0)))).bind fun v => .pure (.value v))) (hd' : dstOf ops i = some d) (ht : aggT P t = some false) : YO P N e ops i d (.slice hd.1 hd.2.1 hd.2.2) w := by
  have hx : ((xs.map Sum.inr).set j.toNat (Sum.inl hd) : List (Hdr ⊕ List α))[j.toNat]? = some (Sum.inl hd) := by
    rw [List.getElem?_set, if_pos rfl, if_pos (by simp; omega)]
  obtain ⟨vs, hS', hlen, hc⟩ := hS.elem (K := K.mix) (.own k et hk0) hx
  obtain ⟨G, hG⟩ := hS'.ro (List.mem_cons_self ..)
  have hvs : vs = [.slice hd.1 hd.2.1 hd.2.2] := hG
  subst hvs
  have hcell := hc 0 1 undef (.inr trivial) 0 _ rfl
  exact ⟨h1, hd', _, h2, run_loadAt_one ht (by rw [addr_add_zero] at hcell ⊢; rw [addr_add_zero] at hcell; exact hcell)⟩
end
end Go.Fw
