import Derived.Test.YtiilloijkbabbaaDoorFwDraw
import Derived.Laws.BytesString
/-! Slices of slices; stores into elements. -/
set_option linter.unusedVariables false
set_option linter.unusedSimpArgs false
namespace Go.Fw
open Go Go.RowKit

def adr : Option Addr → Addr
  | some a => a
  | none => ⟨0, 0, none⟩

/-! ### slicing -/
def loIs : Option Value → Nat → Prop
  | none, l => l = 0
  | some (.int _ i), l => i = (l : Int)
  | _, _ => False
def hiIs : Option Value → Nat → Nat → Prop
  | none, h, n => h = n
  | some (.int _ i), h, _ => i = (h : Int)
  | _, _, _ => False

theorem run_bound {P : Program} {k : IntKind} {i : Nat} {y : Nat} (code : BoundsCode) (h : i ≤ y) (w : World) : (Instr.sliceBound (.int k (i : Int)) y code).run P w = .ok i w := by
  have h0 : (0 : Int) ≤ (i : Int) := by omega
  have h1 : (i : Int) ≤ (y : Int) := by omega
  simp [Instr.sliceBound, asIntOf, h]

theorem run_bounds {P : Program} {sb : Bool} {n C l h m : Nat} {lo hi mx : Option Value} (hl : loIs lo l) (hh : hiIs hi h n) (hm : hiIs mx m C) (hms : mx.isSome = true → hi.isSome = true) (h1 : l ≤ h) (h2 : h ≤ m) (h3 : m ≤ C) (w : World) :
    (Instr.sliceBounds sb n C lo hi mx).run P w = .ok (l, h, m) w := by
  cases lo with
  | none =>
    simp only [loIs] at hl
    subst hl
    cases hi with
    | none =>
      cases mx with
      | none => simp only [hiIs] at hh hm; subst hh; subst hm; rfl
      | some v => simp at hms
    | some v =>
      cases v <;> simp only [hiIs] at hh
      subst hh
      cases mx with
      | none => simp only [hiIs] at hm; subst hm; simp [Instr.sliceBounds, Sem.run_bind, run_bound _ h2]
      | some u =>
        cases u <;> simp only [hiIs] at hm
        subst hm
        simp [Instr.sliceBounds, Sem.run_bind, run_bound _ h2, run_bound _ h3]
  | some v =>
    cases v <;> simp only [loIs] at hl
    subst hl
    cases hi with
    | none =>
      cases mx with
      | none => simp only [hiIs] at hh hm; subst hh; subst hm; simp [Instr.sliceBounds, Sem.run_bind, run_bound _ h1]
      | some v => simp at hms
    | some v =>
      cases v <;> simp only [hiIs] at hh
      subst hh
      cases mx with
      | none => simp only [hiIs] at hm; subst hm; simp [Instr.sliceBounds, Sem.run_bind, run_bound _ h2, run_bound _ h1]
      | some u =>
        cases u <;> simp only [hiIs] at hm
        subst hm
        simp [Instr.sliceBounds, Sem.run_bind, run_bound _ h2, run_bound _ h3, run_bound _ h1]

def sub (A : Option Addr) (n m l sz : Nat) : Option Addr := if m = l then A else A.map (·.add (l * sz))

theorem run_sliceOf {P : Program} {t : TypeId} {sz : Nat} (ht : elT P t = some sz) {A : Option Addr} {n C l h m : Nat} {lo hi mx : Option Value} (hl : loIs lo l) (hh : hiIs hi h n) (hm : hiIs mx m C) (hms : mx.isSome = true → hi.isSome = true) (h1 : l ≤ h) (h2 : h ≤ m) (h3 : m ≤ C) (w : World) :
    (Instr.sliceAt t (.slice A n C) lo hi mx).run P w = .ok (.slice (sub A n m l sz) (h - l) (m - l)) w := by
  unfold elT at ht
  cases hu : P.underlying t with
  | none => rw [hu] at ht; cases ht
  | some dd =>
    rw [hu] at ht
    cases dd <;> try (cases ht)
    case slice e =>
      simp only at ht
      simp [Instr.sliceAt, Instr.slice, run_underlying hu, run_bounds hl hh hm hms h1 h2 h3, run_size ht, sub]

theorem slice_lo {α : Type} (xs : List α) (l : Nat) : xs.drop l = (xs.drop l).take (xs.length - l) := by
  rw [List.take_of_length_le (by simp)]
theorem slice_hi {α : Type} (xs : List α) (h : Nat) : xs.take h = (xs.drop 0).take (h - 0) := by simp
theorem slice_all {α : Type} (xs : List α) : xs = (xs.drop 0).take (xs.length - 0) := by simp
theorem slice_no {α : Type} (xs : List α) : ([] : List α) = (xs.drop 0).take (0 - 0) := by simp

section
variable {P : Program} {N : Nat} {e : Env} {ops : Array Oper} {i : Nat} {Q : Exit → Act → World → Prop} {KK : Env → World → Prop} {w B : World} {os : List Ass} {rs : List Ro} {α : Type}

theorem RepL.mid {K : Kd α} {w : World} {G : Bl} {xs : List α} {cs : List Value} (h : RepL K w G cs xs) (l k : Nat) : RepL K w G ((cs.drop (l * K.n)).take (k * K.n)) ((xs.drop l).take k) := (h.drop l).take k

/-- a slice of what is only read -/
theorem EO.sliceRo (hS : St B w os rs) (K : Kd α) (A : Option Addr) (C : Nat) (xs : List α) (q : Nat) (hr : rs[q]? = some (Ro.sl K A C xs)) (lo hi mx : Option Value) (l h m : Nat) (zs : List α) (hz : zs = (xs.drop l).take (h - l)) (t : TypeId) (d : Nat)
    (h1 : ready N e ops i = true) (h2 : opSem e ops i = some ((Instr.sliceAt t (.slice A xs.length C) lo hi mx).bind fun v => .pure (.value v))) (hd : dstOf ops i = some d) (ht : elT P t = some K.n)
    (hl : loIs lo l) (hh : hiIs hi h xs.length) (hm : hiIs mx m C ∧ (mx.isSome = true → hi.isSome = true)) (hlh : l ≤ h) (hhn : h ≤ xs.length) (hhm : mx = none ∨ h ≤ m ∧ m ≤ xs.length)
    (hk : ∀ A' C', St B w os (Ro.sl K A' C' zs :: rs) → KK ((d, .slice A' zs.length C') :: e) w) : EO P N e ops i Q KK w := by
  subst hz
  obtain ⟨hc1, hc2, hc3⟩ := hS.rd_le (.inl ⟨q, hr⟩)
  have hmC : h ≤ m ∧ m ≤ C := by
    rcases hhm with rfl | ⟨a, b⟩
    · have : m = C := hm.1
      omega
    · omega
  have hrun := run_sliceOf (P := P) (A := A) ht hl hh hm.1 hm.2 hlh hmC.1 hmC.2 w
  have hlen : ((xs.drop l).take (h - l)).length = h - l := by simp; omega
  refine EO.semD _ (.slice (sub A xs.length m l K.n) ((xs.drop l).take (h - l)).length (m - l)) w d h1 h2 hd (by rw [hlen]; exact hrun) (hk _ _ (hS.addR fun G hall => ?_))
  obtain ⟨a, c, he, hre, _⟩ := hall _ (List.mem_of_getElem? hr)
  simp only [List.cons.injEq, Value.slice.injEq, and_true, true_and] at he
  obtain ⟨rfl, rfl⟩ := he
  refine ⟨_, _, rfl, ?_, by rw [hlen]; omega, by omega, fun hn => ?_⟩
  · by_cases hml : m = l
    · left
      have : h - l = 0 := by omega
      rw [this]; simp
    · rcases hre with hn | ⟨ad, cs, ha, hs, hg, hrep, hcell⟩
      · left; rw [hn]; simp
      · subst ha
        refine .inr ⟨ad.add (l * K.n), _, by simp [sub, hml], by rw [Addr.add]; split <;> simp_all, by rw [Addr.add]; split <;> simp_all, hrep.mid l (h - l), fun j v hj => ?_⟩
        rw [addr_add_add hs]
        rw [List.getElem?_take] at hj
        split at hj
        · rw [List.getElem?_drop] at hj; exact hcell _ _ hj
        · cases hj
  · unfold sub at hn
    split at hn
    · subst hn; have := hc3 rfl; omega
    · cases A with
      | none => have := hc3 rfl; omega
      | some ad => simp at hn

/-- a slice of what is owned: it takes its place -/
theorem EO.sliceOwn (hS : St B w os rs) (K : Kd α) (et : TypeId) (A : Option Addr) (C : Nat) (xs : List α) (q : Nat) (hr : os[q]? = some (Ass.own et K A C xs)) (lo hi mx : Option Value) (l h m : Nat) (zs : List α) (hz : zs = (xs.drop l).take (h - l)) (os' : Option Addr → Nat → List Ass) (t : TypeId) (d : Nat)
    (h1 : ready N e ops i = true) (h2 : opSem e ops i = some ((Instr.sliceAt t (.slice A xs.length C) lo hi mx).bind fun v => .pure (.value v))) (hd : dstOf ops i = some d) (ht : elT P t = some K.n)
    (hl : loIs lo l) (hh : hiIs hi h xs.length) (hm : hiIs mx m C ∧ (mx.isSome = true → hi.isSome = true)) (hlh : l ≤ h) (hhn : h ≤ xs.length) (hhm : mx = none ∨ h ≤ m ∧ m ≤ xs.length) (hos : ∀ A' C', os.set q (Ass.own et K A' C' zs) = os' A' C')
    (hk : ∀ A' C', St B w (os' A' C') rs → KK ((d, .slice A' zs.length C') :: e) w) : EO P N e ops i Q KK w := by
  subst hz
  obtain ⟨hc1, hc2, hc3⟩ := hS.rd_le (.inr ⟨q, et, hr⟩)
  have hmC : h ≤ m ∧ m ≤ C := by
    rcases hhm with rfl | ⟨a, b⟩
    · have : m = C := hm.1
      omega
    · omega
  have hrun := run_sliceOf (P := P) (A := A) ht hl hh hm.1 hm.2 hlh hmC.1 hmC.2 w
  have hlen : ((xs.drop l).take (h - l)).length = h - l := by simp; omega
  refine EO.semD _ (.slice (sub A xs.length m l K.n) ((xs.drop l).take (h - l)).length (m - l)) w d h1 h2 hd (by rw [hlen]; exact hrun) (hk _ _ ?_)
  rw [← hos]
  obtain ⟨F1, G, ⟨cs, g1, g2, g3⟩, hF, hR, hO, hGF, hup⟩ := hS.update q hr
  have hob : ∀ (a : Option Addr) (n c : Nat) (a' : Option Addr) (n' c' : Nat), (∀ g, (∃ o, a = some ⟨g, o, none⟩) ↔ ∃ o, a' = some ⟨g, o, none⟩) → a.map (·.block) = a'.map (·.block) → (Value.slice a n c).ownBlock = (Value.slice a' n' c').ownBlock := by
    intro a n c a' n' c' _ hb
    cases a <;> cases a' <;> simp_all [Value.ownBlock]
  refine hup w _ F1 ⟨rfl, rfl, rfl⟩ (Nat.le_refl _) (fun _ _ _ => rfl) ⟨_, g1.mid l (h - l), ?_, ?_⟩ (fun x hx => ⟨.inl hx, hF x hx⟩)
  · refine ⟨by rw [hlen, (g1.mid l (h - l)).len, hlen], ?_⟩
    rcases g2.2 with ⟨hv, hn⟩ | ⟨g, off, cap, cur, hv, hg, hnc, hcm, hfit, hcs⟩
    · injection hv with e1 e2 e3
      subst e1
      have := hc3 rfl
      left
      refine ⟨?_, by rw [hlen]; omega⟩
      rw [hlen]
      have e4 : h - l = 0 := by omega
      have e5 : m - l = 0 := by omega
      rw [e4, e5]
      unfold sub
      split <;> rfl
    · injection hv with e1 e2 e3
      subst e1 e3
      right
      rw [hlen]
      have hml' : (l + (m - l)) * K.n = l * K.n + (m - l) * K.n := by rw [Nat.add_mul]
      have hmul : m * K.n ≤ C * K.n := Nat.mul_le_mul_right _ hmC.2
      have hlm : l + (m - l) = m := by omega
      rw [hlm] at hml'
      by_cases hml : m = l
      · refine ⟨g, off, m - l, cur, by simp [sub, hml], hg, by omega, by omega, ?_, ?_⟩
        · have : m - l = 0 := by omega
          rw [this, Nat.zero_mul]; omega
        · have : h - l = 0 := by omega
          rw [this]; simp
      · refine ⟨g, off + l * K.n, m - l, cur, by simp [sub, hml, Addr.add], hg, by omega, by omega, by omega, ?_⟩
        rw [← hcs, List.drop_take, List.take_take, List.drop_drop]
        congr 1
        have : (h - l) * K.n ≤ xs.length * K.n - l * K.n := by rw [← Nat.sub_mul]; exact Nat.mul_le_mul_right _ (by omega)
        omega
  · intro k
    rw [g3]
    have : (Value.slice A xs.length C).ownBlock = (Value.slice (sub A xs.length m l K.n) ((xs.drop l).take (h - l)).length (m - l)).ownBlock := by
      unfold sub
      split
      · cases A <;> rfl
      · cases A with
        | none => rfl
        | some ad => simp only [Option.map_some, Value.ownBlock]; rw [Addr.add]; split <;> simp_all
    rw [this]
end

/-! ### stores into elements -/
def splice {β : Type} (l : List β) (p : Nat) (c : List β) : List β := l.take p ++ c ++ l.drop (p + c.length)

theorem splice_get {β : Type} {l c : List β} {p : Nat} (h : p + c.length ≤ l.length) (i : Nat) : (splice l p c)[i]? = if i < p then l[i]? else if i < p + c.length then c[i - p]? else l[i]? := by
  unfold splice
  have h1 : (l.take p).length = p := by simp; omega
  rw [List.append_assoc, List.getElem?_append, h1]
  split
  · rw [List.getElem?_take, if_pos (by assumption)]
  · rw [List.getElem?_append]
    split
    · rw [if_pos (by omega)]
    · rw [if_neg (by omega), List.getElem?_drop]
      congr 1
      omega

theorem splice_mid {β : Type} {l c : List β} {o n q : Nat} (h1 : q + c.length ≤ n) (h2 : o + n ≤ l.length) : ((splice l (o + q) c).drop o).take n = splice ((l.drop o).take n) q c := by
  have h3 : ((l.drop o).take n).length = n := by simp; omega
  apply List.ext_getElem?
  intro i
  rw [splice_get (by omega), List.getElem?_take, List.getElem?_take, List.getElem?_drop, List.getElem?_drop, splice_get (by omega)]
  by_cases hi : i < n
  · simp only [hi, if_true]
    by_cases a : i < q
    · rw [if_pos (by omega), if_pos a]
    · rw [if_neg (by omega), if_neg a]
      by_cases b : i < q + c.length
      · rw [if_pos (by omega), if_pos b]
        congr 1; omega
      · rw [if_neg (by omega), if_neg b]
  · simp only [hi, if_false]
    rw [if_neg (by omega), if_neg (by omega)]

theorem splice_el {β : Type} {l c : List β} {a n off : Nat} (h1 : off + c.length ≤ n) (h2 : a + n ≤ l.length) :
    splice l (a + off) c = l.take a ++ (((l.drop a).take n).take off ++ c ++ ((l.drop a).take n).drop (off + c.length)) ++ l.drop (a + n) := by
  have h3 : ((l.drop a).take n).length = n := by simp; omega
  have h4 : splice ((l.drop a).take n) off c = ((l.drop a).take n).take off ++ c ++ ((l.drop a).take n).drop (off + c.length) := rfl
  rw [← h4]
  have h5 : (splice ((l.drop a).take n) off c).length = n := by unfold splice; simp; omega
  apply List.ext_getElem?
  intro i
  rw [splice_get (by omega), List.append_assoc, List.getElem?_append]
  have h6 : (l.take a).length = a := by simp; omega
  rw [h6, List.getElem?_take]
  by_cases ha : i < a
  · rw [if_pos (by omega), if_pos ha, if_pos ha]
  · rw [if_neg ha, List.getElem?_append, h5, splice_get (by omega), List.getElem?_take, List.getElem?_drop, List.getElem?_drop]
    (repeat' split) <;> first | rfl | (exfalso; omega) | (congr 1; omega)

section
variable {P : Program} {N : Nat} {e : Env} {ops : Array Oper} {i : Nat} {Q : Exit → Act → World → Prop} {KK : Env → World → Prop} {w B : World} {os : List Ass} {rs : List Ro} {α : Type}

theorem set_whole {K : Kd α} {w : World} {G : Bl} {vs cs : List Value} {x y : α} {n : Nat} (h : K.rep w G vs x) (hn : K.n = n) (hy : K.rep w G cs y) : K.rep w G (vs.take 0 ++ cs ++ vs.drop (0 + n)) y := by
  have e := K.len h
  rw [List.drop_of_length_le (by omega), List.append_nil, List.take_zero, List.nil_append]
  exact hy

/-- a store into an element of an owned slice -/
theorem EO.storeEl (hS : St B w os rs) (k : Nat) (K : Kd α) (et : TypeId) (ad : Addr) (C : Nat) (xs : List α) (hk0 : os[k]? = some (Ass.own et K (some ad) C xs)) (j : Int) (h0 : 0 ≤ j) (hlt : j < (xs.length : Int)) (z : α)
    (t : TypeId) (sz off : Nat) (hsz : sz = K.n) (x : Value) (y : α) (zs : List α) (hz : zs = xs.set j.toNat y) (os' : List Ass) (h1 : ready N e ops i = true)
    (h2 : opSem e ops i = some ((Instr.storeAt t (.pointer (some ((ad.add (j.toNat * sz)).add off))) x).bind fun _ => .pure .skip)) (hd : dstOf ops i = none) (hs : sizeT P t = some x.cells.size) (hfit : Nat.ble (off + x.cells.size) K.n = true)
    (hone : x.cells.toList.all (fun u => u.oneCell') = true)
    (hset : ∀ w G vs, (∀ r ∈ rs, r.holds w G) → K.rep w G vs (xs.getD j.toNat z) → K.rep w G (vs.take off ++ x.cells.toList ++ vs.drop (off + x.cells.size)) y)
    (hos : os.set k (Ass.own et K (some ad) C zs) = os') (hk : ∀ w', St B w' os' rs → KK e w') : EO P N e ops i Q KK w := by
  subst hz hsz
  have hfit' := Nat.le_of_ble_eq_true hfit
  obtain ⟨F1, G, ⟨cs, g1, g2, g3⟩, hF, hR, hO, hGF, hup⟩ := hS.update k hk0
  have hj : j.toNat < xs.length := by omega
  rcases g2.2 with ⟨hv, hn⟩ | ⟨g, off0, cap, cur, hv, hg, hnc, hcm, hfitR, hcs⟩
  · cases hv
  · injection hv with e1 e2 e3
    injection e1 with e1
    subst e1 e3
    have hcl : x.cells.toList.length = x.cells.size := by simp
    have hmul : (j.toNat + 1) * K.n ≤ xs.length * K.n := Nat.mul_le_mul_right _ (by omega)
    have hmul2 : xs.length * K.n ≤ C * K.n := Nat.mul_le_mul_right _ hnc
    rw [Nat.add_mul, Nat.one_mul] at hmul
    have hr := run_storeAt (P := P) (t := t) (g := g) (j := off0 + (j.toNat * K.n + off)) (x := x) hg hs (by omega) (List.all_eq_true.1 hone)
    refine EO.semN _ _ h1 (by rw [h2, addr_add_none, addr_add_none, Nat.add_assoc]) hd hr (hk _ ?_)
    rw [← hos]
    have hcur : cur.toList.take (off0 + (j.toNat * K.n + off)) ++ x.cells.toList ++ cur.toList.drop (off0 + (j.toNat * K.n + off) + x.cells.size) = splice cur.toList (off0 + (j.toNat * K.n + off)) x.cells.toList := by unfold splice; rw [hcl]
    rw [hcur]
    have hlen : cs.length = xs.length * K.n := g1.len
    have hx := getD_some z h0 hlt
    obtain ⟨vs, hvs, hvcs⟩ := g1.get hx
    have key : ∀ w', (∀ k, G k → w'.heap[k]? = w.heap[k]?) → RepL K w' G (splice cs (j.toNat * K.n + off) x.cells.toList) (xs.set j.toNat y) := by
      intro w' hw'
      rw [splice_el (n := K.n) (by omega) (by omega), hvcs, hcl]
      have g1' : RepL K w' G cs xs := g1.loc hw' (fun _ h => h)
      have := RepL.set (K := K) (K.loc (hset w G vs hR hvs) hw' (fun _ h => h)) g1' hj
      rwa [Nat.add_mul, Nat.one_mul] at this
    refine hup _ (Ass.own et K (some ⟨g, off0, none⟩) C (xs.set j.toNat y)) F1 ⟨rfl, rfl, rfl⟩ (by simp) (fun q hq hqF => Go.setRow_other w g q _ (fun h => hqF ((g3 q).2 (by subst h; rfl)))) ⟨_, key _ (fun q hq => ?_), ⟨?_, .inr ⟨g, off0, C, (splice cur.toList (off0 + (j.toNat * K.n + off)) x.cells.toList).toArray, by simp, Go.setRow_heap w g _ _ et _ hg, by simpa using hnc, hcm, ?_, ?_⟩⟩, ?_⟩ (fun q hq => ⟨.inl hq, by simpa using hF q hq⟩)
    · exact Go.setRow_other w g q _ (fun h => (hGF q hq).2 ((g3 q).2 (by subst h; rfl)))
    · unfold splice; simp; omega
    · unfold splice; simp; omega
    · have h9 := splice_mid (l := cur.toList) (c := x.cells.toList) (o := off0) (n := xs.length * K.n) (q := j.toNat * K.n + off) (by omega) (by simp; omega)
      have hl9 : (xs.set j.toNat y).length = xs.length := by simp
      rw [hl9]
      rw [hcs] at h9
      exact h9
    · intro q; rw [g3]; simp [Value.ownBlock]
end

/-! ### lending: a callee that changes nothing that was there -/
/-- what it holds hangs on its own blocks alone -/
def Solid (A : Ass) : Prop := ∀ (w : World) (F G G' : Bl), A.holds w F G → A.holds w F G'
def Plain {α : Type} (K : Kd α) : Prop := ∀ (w : World) (G G' : Bl) (vs : List Value) (x : α), K.rep w G vs x → K.rep w G' vs x
theorem Plain.int {k : IntKind} : Plain (Kd.int k) := fun _ _ _ _ _ h => h
theorem Plain.bool : Plain Kd.bool := fun _ _ _ _ _ h => h
theorem Plain.str : Plain Kd.str := fun _ _ _ _ _ h => h
theorem Plain.unit : Plain Kd.unit := fun _ _ _ _ _ h => h
theorem Plain.prod {α β : Type} {K : Kd α} {L : Kd β} (h1 : Plain K) (h2 : Plain L) : Plain (K.prod L) := fun w G G' vs x ⟨a, b, e, ha, hb⟩ => ⟨a, b, e, h1 w G G' a _ ha, h2 w G G' b _ hb⟩
theorem Plain.iso {α β : Type} {K : Kd α} {f : β → α} (h1 : Plain K) : Plain (K.iso f) := fun w G G' vs x h => h1 w G G' vs _ h
theorem Plain.repL {α : Type} {K : Kd α} (h : Plain K) {w : World} {G G' : Bl} : ∀ {xs : List α} {cs : List Value}, RepL K w G cs xs → RepL K w G' cs xs
  | [], _, h1 => h1
  | x :: xs, cs, ⟨a, b, e, ha, hb⟩ => ⟨a, b, e, h _ _ _ _ _ ha, h.repL hb⟩
theorem Solid.box {T : TypeId} {g : Nat} {cs : List Value} : Solid (Ass.box T g cs) := fun _ _ _ _ h => h
theorem Solid.own {α : Type} {K : Kd α} (hK : Plain K) {e : TypeId} {A : Option Addr} {C : Nat} {xs : List α} : Solid (Ass.own e K A C xs) := fun _ _ _ _ ⟨cs, h1, h2, h3⟩ => ⟨cs, hK.repL h1, h2, h3⟩
def AllSolid : List Ass → Prop
  | [] => True
  | A :: l => Solid A ∧ AllSolid l

theorem AllO.solid {w : World} {G G' : Bl} : ∀ {os : List Ass} {F : Bl}, AllSolid os → AllO w G os F → AllO w G' os F
  | [], _, _, h => h
  | A :: l, F, hs, ⟨F1, F2, h1, h2, h3, h4⟩ => ⟨F1, F2, hs.1 _ _ _ _ h1, h2.solid hs.2, h3, h4⟩
theorem AllO.append {w : World} {G : Bl} {os : List Ass} {F : Bl} (h : AllO w G os F) : ∀ {os' : List Ass} {F' : Bl}, AllO w G os' F' → (∀ k, F' k → ¬ F k) → AllO w G (os' ++ os) (fun k => F' k ∨ F k)
  | [], F', h', hd => by
    have e : (fun k => F' k ∨ F k) = F := by
      funext k
      exact propext ⟨fun hk => hk.elim (fun x => (h' k x).elim) id, .inr⟩
    rw [e]; exact h
  | A :: l, F', ⟨F1, F2, h1, h2, h3, h4⟩, hd => by
    refine ⟨F1, fun k => F2 k ∨ F k, h1, AllO.append h h2 (fun k hk => hd k ((h4 k).2 (.inr hk))), fun k hk hk' => hk'.elim (h3 k hk) (hd k ((h4 k).2 (.inl hk))), fun k => ?_⟩
    show F' k ∨ F k ↔ F1 k ∨ F2 k ∨ F k
    rw [h4, or_assoc]

/-- what was lent comes back, with what the callee has made -/
theorem St.borrow {B w w' : World} {os os' : List Ass} {rs rs' : List Ro} (h : St B w os rs) (h' : St w w' os' rs') (hs : AllSolid os') : St B w' (os' ++ os) rs := by
  obtain ⟨G, F, h1, h2, h3, h4, h5⟩ := h.mem
  obtain ⟨G', F', g1, g2, g3, g4, g5⟩ := h'.mem
  have hk : ∀ k, k < w.heap.size → w'.heap[k]? = w.heap[k]? := fun k hk => (g3 k hk).2
  have hlt : ∀ k, k < w.heap.size → k < w'.heap.size := fun k hk => g1 k (.inl (g3 k hk).1)
  have hd : ∀ k, F' k → ¬ k < w.heap.size := fun k hf hk => g2 k (g3 k hk).1 hf
  refine ⟨h'.os_.trans h.os_, h'.tape.trans h.tape, h'.output.trans h.output, G, fun k => F' k ∨ F k, ?_, ?_, ?_, ?_, ?_⟩
  · intro k hk
    rcases hk with hk | hk | hk
    · exact hlt k (h1 k (.inl hk))
    · exact g1 k (.inr hk)
    · exact hlt k (h1 k (.inr hk))
  · intro k hG hF
    rcases hF with hF | hF
    · exact hd k hF (h1 k (.inl hG))
    · exact h2 k hG hF
  · intro k hB
    exact ⟨(h3 k hB).1, (hk k (h1 k (.inl (h3 k hB).1))).trans (h3 k hB).2⟩
  · exact AllO.append (h4.loc (fun k hkk => hk k (h1 k (hkk.elim .inr .inl))) (fun _ x => x)) (g4.solid hs) (fun k hF hk' => hd k hF (h1 k (.inr hk')))
  · intro r hr
    exact r.loc (h5 r hr) (fun k hkk => hk k (h1 k (.inl hkk))) (fun _ x => x)

/-- a fact that may be lent -/
def Lent (os : List Ass) (rs : List Ro) (r : Ro) : Prop := (∃ j : Nat, rs[j]? = some r) ∨ ∃ (α : Type) (K : Kd α) (et : TypeId) (A : Option Addr) (C : Nat) (xs : List α) (k : Nat), os[k]? = some (Ass.own et K A C xs) ∧ r = Ro.sl K A C xs
theorem Lent.ro {os : List Ass} {rs : List Ro} {r : Ro} (j : Nat) (h : rs[j]? = some r) : Lent os rs r := .inl ⟨j, h⟩
theorem Lent.own {os : List Ass} {rs : List Ro} {α : Type} {K : Kd α} {et : TypeId} {A : Option Addr} {C : Nat} {xs : List α} (k : Nat) (h : os[k]? = some (Ass.own et K A C xs)) : Lent os rs (Ro.sl K A C xs) := .inr ⟨α, K, et, A, C, xs, k, h, rfl⟩
def LentL (os : List Ass) (rs : List Ro) : List Ro → Prop
  | [] => True
  | r :: l => Lent os rs r ∧ LentL os rs l
theorem LentL.get {os : List Ass} {rs : List Ro} : ∀ {l : List Ro}, LentL os rs l → ∀ r ∈ l, Lent os rs r
  | r :: l, h, r', hr => by
    rcases List.mem_cons.1 hr with rfl | hr
    · exact h.1
    · exact h.2.get r' hr

theorem St.lend {B w : World} {os : List Ass} {rs : List Ro} (h : St B w os rs) (l : List Ro) (hl : LentL os rs l) : St w w [] l := by
  refine St.start w fun r hr => ?_
  obtain ⟨G, F, h1, h2, h3, h4, h5⟩ := h.mem
  rcases hl.get r hr with ⟨j, hj⟩ | ⟨α, K, et, A, C, xs, k, hk, rfl⟩
  · exact r.loc (h5 r (List.mem_of_getElem? hj)) (fun _ _ => rfl) (fun k hk => h1 k (.inl hk))
  · obtain ⟨F1, F2, ⟨cs, g1, g2, g3⟩, _, _, g4⟩ := h4.pull hk
    refine ⟨A, C, rfl, ?_, (g2.caps rfl).1, (g2.caps rfl).2.1, (g2.caps rfl).2.2⟩
    rcases g2.cells g1 with hn | ⟨ad, cs', ha, hs, hr, hc⟩
    · exact .inl hn
    · refine .inr ⟨ad, cs', ha, hs, h1 _ (.inr ((g4 _).2 (.inl ((g3 _).2 (by rw [ha]; rfl))))), hr.loc (fun _ _ => rfl) (fun k hk => h1 k (.inl hk)), hc⟩

/-! ### bytes and strings -/
def bStr (l : List Int) : ByteArray := l.foldl (fun r n => r.push (UInt8.ofNat n.toNat)) ByteArray.empty

theorem repL_int {k : IntKind} {w : World} {G : Bl} : ∀ {xs : List Int} {cs : List Value}, RepL (Kd.int k) w G cs xs → cs = xs.map (Value.int k)
  | [], cs, h => h
  | x :: xs, cs, ⟨a, b, e, ha, hb⟩ => by
    have ha' : a = [.int k x] := ha
    subst e ha'
    rw [repL_int hb]
    rfl

theorem YO.bstr {P : Program} {N : Nat} {e : Env} {ops : Array Oper} {i : Nat} {w B : World} {os : List Ass} {rs : List Ro} (hS : St B w os rs) (A : Option Addr) (C : Nat) (xs : List Int) (hr : Rd os rs (Kd.int .u8) A C xs) (src dst et : TypeId) (d : Nat) (h1 : ready N e ops i = true)
    (h2 : opSem e ops i = some ((convert src dst (.slice A xs.length C)).bind fun v => .pure (.value v))) (hd : dstOf ops i = some d) (ht : P.underlying src = some (.slice et)) (he : P.underlying et = some (.int .u8)) (hs : P.underlying dst = some .string) :
    YO P N e ops i d (.string (bStr xs)) w := by
  refine ⟨h1, hd, _, h2, ?_⟩
  rw [run_convert_bytes_string w src dst et A xs.length C ht he hs]
  obtain ⟨G, _, hc, _, _, _⟩ := hS.rd hr
  cases A with
  | none =>
    rcases hc with hn | ⟨ad, cs, ha, _⟩
    · subst hn; rfl
    · cases ha
  | some ad =>
    refine run_bytesToString w ad xs.length C xs ?_
    have : ∃ cs : List Value, cs = xs.map (Value.int .u8) ∧ ∀ j v, cs[j]? = some v → w.cell? (ad.add j) = some v := by
      rcases hc with hn | ⟨ad', cs, ha, _, hrep, hcell⟩
      · subst hn; exact ⟨[], rfl, fun j v hj => by simp at hj⟩
      · injection ha with ha; subst ha
        exact ⟨cs, repL_int hrep, hcell⟩
    obtain ⟨cs, hcs, hcell⟩ := this
    subst hcs
    have := run_loadCells_list (P := P) w ad _ hcell
    simpa using this

theorem YO.strSlice {P : Program} {N : Nat} {e : Env} {ops : Array Oper} {i : Nat} {w : World} (s : ByteArray) (lo hi : Option Value) (l h : Nat) (t : TypeId) (d : Nat) (h1 : ready N e ops i = true)
    (h2 : opSem e ops i = some ((Instr.sliceAt t (.string s) lo hi none).bind fun v => .pure (.value v))) (hd : dstOf ops i = some d) (ht : P.underlying t = some .string) (hl : loIs lo l) (hh : hiIs hi h s.size) (hlh : l ≤ h) (hhn : h ≤ s.size) :
    YO P N e ops i d (.string (s.extract l h)) w := by
  refine ⟨h1, hd, _, h2, ?_⟩
  have hb := run_bounds (P := P) (sb := false) (n := s.size) (C := s.size) (mx := none) (m := s.size) hl hh rfl (fun h => by cases h) hlh hhn (Nat.le_refl _) w
  simp [Instr.sliceAt, Instr.slice, run_underlying ht, hb]

/-! ### a literal of bytes out of a string: its row is marked, and only read from then on -/
def Ass.shown {α : Type} (K : Kd α) (ad : Addr) (C : Nat) (xs : List α) : Ass :=
  ⟨fun w F G => ad.spot = none ∧ (∀ k, F k ↔ k = ad.block) ∧ xs.length ≤ C ∧ C ≤ maxLen ∧ ∃ cs, RepL K w G cs xs ∧ ∀ j v, cs[j]? = some v → w.cell? (ad.add j) = some v,
   @fun w w' F G G' ⟨h1, h2, h3, h4, cs, h5, h6⟩ hk hG => ⟨h1, h2, h3, h4, cs, h5.loc (fun k h => hk k (.inr h)) hG, fun j v hj => by
    have hb : (ad.add j).block = ad.block := by unfold Addr.add; split <;> rfl
    rw [World.cell?_of_block (w := w) (by rw [hb]; exact hk _ (.inl ((h2 _).2 rfl)))]
    exact h6 j v hj⟩⟩

theorem freeze_heap (w : World) (a : Addr) (n k : Nat) (h : k ≠ a.block) : (w.freeze a n).heap[k]? = w.heap[k]? := by
  unfold World.freeze
  split
  · rfl
  · simp [Array.getElem?_modify, Ne.symm h]
theorem freeze_size (w : World) (a : Addr) (n : Nat) : (w.freeze a n).heap.size = w.heap.size := by
  unfold World.freeze
  split <;> simp
theorem freeze_outer (w : World) (a : Addr) (n : Nat) : Outer w (w.freeze a n) := by
  unfold World.freeze
  split <;> exact ⟨rfl, rfl, rfl⟩
theorem freeze_cell (w : World) (a b : Addr) (n : Nat) : (w.freeze a n).cell? b = w.cell? b := by
  by_cases h : b.block = a.block
  · unfold World.freeze
    split
    · rfl
    · unfold World.cell?
      simp only [Array.getElem?_modify, h, if_true]
      cases hg : w.heap[a.block]? with
      | none => rfl
      | some o => cases o <;> rfl
  · exact World.cell?_of_block (freeze_heap w a n _ h)

theorem EO.mark {P : Program} {N : Nat} {e : Env} {ops : Array Oper} {i : Nat} {Q : Exit → Act → World → Prop} {KK : Env → World → Prop} {w B : World} {os : List Ass} {rs : List Ro} (hS : St B w os rs) (k : Nat) (et : TypeId) (ad : Addr) (C : Nat) (xs : List Int) (hk0 : os[k]? = some (Ass.own et (Kd.int .u8) (some ad) C xs)) (t et' : TypeId) (d : Nat)
    (h1 : ready N e ops i = true) (h2 : opSem e ops i = some ((convert t t (.slice (some ad) xs.length C)).bind fun v => .pure (.value v))) (hd : dstOf ops i = some d) (ht : P.underlying t = some (.slice et')) (he : P.underlying et' = some (.int .u8))
    (hk : ∀ w', St B w' (os.eraseIdx k) (Ro.sl (Kd.int .u8) (some ad) C xs :: rs) → KK ((d, .slice (some ad) xs.length C) :: e) w') : EO P N e ops i Q KK w := by
  obtain ⟨F1, G, ⟨cs, g1, g2, g3⟩, hF, hR, hO, hGF, hup⟩ := hS.update k hk0
  rcases g2.2 with ⟨hv, hn⟩ | ⟨g, off0, cap, cur, hv, hg, hnc, hcm, hfitR, hcs⟩
  · cases hv
  · injection hv with e1 e2 e3
    injection e1 with e1
    subst e1 e3
    have hsh : w.shape? g = some (et, cur.size) := by unfold World.shape?; rw [hg]
    have hrun : (convert t t (.slice (some (⟨g, off0, none⟩ : Addr)) xs.length C)).run P w = .ok (.slice (some ⟨g, off0, none⟩) xs.length C) (w.freeze ⟨g, cur.size, none⟩ 1) := by
      simp [convert, run_underlying ht, run_underlying he, markStringish, hsh]
    refine EO.semD _ _ _ d h1 h2 hd hrun (hk _ ?_)
    have hcell := Row.cells g1 g2
    have hS' : St B (w.freeze ⟨g, cur.size, none⟩ 1) (os.set k (Ass.shown (Kd.int .u8) ⟨g, off0, none⟩ C xs)) rs := by
      refine hup _ _ F1 (freeze_outer _ _ _) (by rw [freeze_size]; exact Nat.le_refl _) (fun x hx hxF => freeze_heap _ _ _ _ (fun h => hxF ((g3 x).2 (by subst h; rfl)))) ⟨rfl, fun q => by rw [g3]; simp [Value.ownBlock, eq_comm], hnc, hcm, ?_⟩ (fun x hx => ⟨.inl hx, by rw [freeze_size]; exact hF x hx⟩)
      rcases hcell with hn | ⟨ad', cs', ha, hs, hr, hc⟩
      · subst hn; exact ⟨[], rfl, fun j v hj => by simp at hj⟩
      · injection ha with ha; subst ha
        exact ⟨cs', Plain.int.repL hr |>.loc (G := G) (fun q hq => freeze_heap _ _ _ _ (fun h => (hGF q hq).2 ((g3 q).2 (by subst h; rfl)))) (fun _ h => h), fun j v hj => by rw [freeze_cell]; exact hc j v hj⟩
    have hlt : k < os.length := (List.getElem?_eq_some_iff.1 hk0).1
    have h9 := hS'.freeze k (A := Ass.shown (Kd.int .u8) ⟨g, off0, none⟩ C xs) (r := Ro.sl (Kd.int .u8) (some ⟨g, off0, none⟩) C xs) (by simp [hlt]) (fun F G ⟨p1, p2, p3, p4, cs, p5, p6⟩ => ⟨_, _, rfl, .inr ⟨_, cs, rfl, p1, .inr ((p2 _).2 rfl), Plain.int.repL p5, p6⟩, p3, p4, fun h => by cases h⟩)
    have e9 : (os.set k (Ass.shown (Kd.int .u8) ⟨g, off0, none⟩ C xs)).eraseIdx k = os.eraseIdx k := by
      rw [List.eraseIdx_eq_take_drop_succ, List.eraseIdx_eq_take_drop_succ, List.take_set, List.drop_set_of_lt (by omega)]
      congr 1
      rw [List.set_eq_of_length_le (by simp; omega)]
    rw [e9] at h9
    exact h9

/-! ### a result that is a variable in memory -/
def cellRes (fn : Func) : Option (Tmp × TypeId) := match fn.results.toList with
  | [.cell a t] => some (a, t)
  | _ => none

theorem results_cell {P : Program} {fn : Func} {a : Tmp} {t : TypeId} (h : cellRes fn = some (a, t)) {tmps : Array Value} {ad : Addr} (ha : tmps[a]? = some (.pointer (some ad))) {w : World} {v : Value} (hl : (Instr.loadAt t (.pointer (some ad))).run P w = .ok v w) : (results fn tmps).run P w = .ok v w := by
  have hr : fn.results = #[.cell a t] := by
    unfold cellRes at h
    split at h
    · rename_i a' t' he
      simp only [Option.some.injEq, Prod.mk.injEq] at h
      obtain ⟨rfl, rfl⟩ := h
      apply Array.ext'
      exact he
    · cases h
  have hl' : (loadVar t ad).run P w = .ok v w := by simpa [Instr.loadAt, Instr.sureAddr] using hl
  unfold results
  rw [hr]
  simp [Array.getD_eq_getD_getElem?, ha, asAddr, hl']

theorem EQ.leaveC {P : Program} {fn : Func} {R : Ending → World → Prop} {N : Nat} {e : Env} {w B : World} {os : List Ass} {rs : List Ro} (hS : St B w os rs) (k : Nat) {T : TypeId} {g : Nat} {cs : List Value} (hk0 : os[k]? = some (Ass.box T g cs)) (a : Tmp) (t : TypeId) (j n : Nat) (v : Value)
    (hr : cellRes fn = some (a, t)) (ha : e.at a = some (.pointer (some ⟨g, j, none⟩))) (hp : packed P t ((cs.drop j).take n) = some v) (hR : R (.returned v) w) : EQ N e (KQ P (bodyPost P fn R) [] .ret) w := by
  refine fun ac hac => ⟨hac.defers, v, results_cell hr (hac.slots _ _ ha) (run_loadAt hp fun m u hu => ?_), hR⟩
  obtain ⟨F, G, hA⟩ := hS.own k hk0
  rw [addr_add_none, box_cell hA]
  rw [List.getElem?_take] at hu
  split at hu
  · simpa using hu
  · cases hu

def OneRes (P : Program) (e : Env) (os : List Ass) (r : ResultVar) (v : Value) : Prop := match r with
  | .tmp t => e.at t = some v
  | .cell a t => ∃ (k : Nat) (T : TypeId) (g : Nat) (cs : List Value) (j n : Nat), os[k]? = some (Ass.box T g cs) ∧ e.at a = some (.pointer (some ⟨g, j, none⟩)) ∧ packed P t ((cs.drop j).take n) = some v

theorem andThen_ok {α β : Type} {x : Result α} {a : α} {w : World} (h : x = .ok a w) (F : α → World → Result β) : x.andThen F = F a w := by rw [h]; rfl

theorem EQ.leave2 {P : Program} {fn : Func} {R : Ending → World → Prop} {N : Nat} {e : Env} {w B : World} {os : List Ass} {rs : List Ro} (hS : St B w os rs) (r1 r2 : ResultVar) (v1 v2 : Value) (hr : fn.results = #[r1, r2]) (h1 : OneRes P e os r1 v1) (h2 : OneRes P e os r2 v2)
    (hR : R (.returned (.tuple #[v1, v2])) w) : EQ N e (KQ P (bodyPost P fn R) [] .ret) w := by
  refine fun ac hac => ⟨hac.defers, .tuple #[v1, v2], ?_, hR⟩
  have key : ∀ r v, OneRes P e os r v → (match r with | .tmp t => pure (ac.tmps[t]?.getD undef) | .cell a t => do loadVar t (← asAddr (ac.tmps[a]?.getD undef)) : Sem Value).run P w = .ok v w := by
    intro r v h
    cases r with
    | tmp t =>
      have := hac.slots t v h
      simp [this]
    | cell a t =>
      obtain ⟨k, T, g, cs, j, n, hk0, ha, hp⟩ := h
      have hl := run_loadAt (P := P) (w := w) (ad := ⟨g, j, none⟩) hp (fun m u hu => by
        obtain ⟨F, G, hA⟩ := hS.own k hk0
        rw [addr_add_none, box_cell hA]
        rw [List.getElem?_take] at hu
        split at hu
        · simpa using hu
        · cases hu)
      have hl' : (loadVar t ⟨g, j, none⟩).run P w = .ok v w := by simpa [Instr.loadAt, Instr.sureAddr] using hl
      simp [hac.slots _ _ ha, asAddr, hl']
  have k1 := key r1 v1 h1
  have k2 := key r2 v2 h2
  unfold results
  rw [hr]
  simp [Sem.run_bind]
  refine (andThen_ok k1 _).trans ?_
  exact (andThen_ok k2 _).trans rfl
end Go.Fw
