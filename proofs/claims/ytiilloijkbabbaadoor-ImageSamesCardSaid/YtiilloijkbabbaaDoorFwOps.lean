import Derived.Test.YtiilloijkbabbaaDoorFwMem
/-! The operations on memory, one rule each. -/
set_option linter.unusedVariables false
set_option linter.unusedSimpArgs false
namespace Go.Fw
open Go Go.RowKit

/-! ### small laws -/
theorem addr_add_none (b o n : Nat) : (⟨b, o, none⟩ : Addr).add n = ⟨b, o + n, none⟩ := by
  unfold Addr.add; split
  · rename_i h; subst h; rfl
  · rfl
theorem addr_add_add {a : Addr} (h : a.spot = none) (m n : Nat) : (a.add m).add n = a.add (m + n) := by
  obtain ⟨b, o, s⟩ := a
  simp only at h; subst h
  rw [addr_add_none, addr_add_none, addr_add_none, Nat.add_assoc]
theorem addr_add_zero (a : Addr) : a.add 0 = a := rfl

def aggT (P : Program) (t : TypeId) : Option Bool := match P.underlying t with
  | some (.struct _) => some true
  | some (.array _ _) => some true
  | some _ => some false
  | none => none

theorem run_isAgg {P : Program} {t : TypeId} {b : Bool} (h : aggT P t = some b) (w : World) : (isAgg t).run P w = .ok b w := by
  unfold aggT at h
  cases hu : P.underlying t with
  | none => rw [hu] at h; cases h
  | some d =>
    rw [hu] at h
    unfold isAgg
    rw [Sem.run_bind, run_underlying hu w]
    cases d <;> simp_all

def sizeT (P : Program) (t : TypeId) : Option Nat := (P.info? t).map (·.size)
theorem run_size {P : Program} {t : TypeId} {n : Nat} (h : sizeT P t = some n) (w : World) : (sizeOf t).run P w = .ok n w := by
  unfold sizeT at h
  cases hi : P.info? t with
  | none => rw [hi] at h; cases h
  | some i =>
    rw [hi] at h
    simp only [Option.map_some, Option.some.injEq] at h
    simp [sizeOf, typeInfo, hi, h]

theorem run_loadAt_one {P : Program} {t : TypeId} {ad : Addr} {w : World} {v : Value} (ht : aggT P t = some false) (hc : w.cell? ad = some v) : (Instr.loadAt t (.pointer (some ad))).run P w = .ok v w := by
  simp [Instr.loadAt, Instr.sureAddr, loadVar, run_isAgg ht, hc]

theorem run_loadAt_agg {P : Program} {t : TypeId} {ad : Addr} {w : World} {vs : List Value} (ht : aggT P t = some true) (hs : sizeT P t = some vs.length) (hc : ∀ j v, vs[j]? = some v → w.cell? (ad.add j) = some v) :
    (Instr.loadAt t (.pointer (some ad))).run P w = .ok (.agg vs.toArray) w := by
  simp [Instr.loadAt, Instr.sureAddr, loadVar, run_isAgg ht, run_size hs, run_loadCells_list (P := P) w ad vs hc]

/-- a value of type t, out of its cells -/
def packed (P : Program) (t : TypeId) (vs : List Value) : Option Value := match aggT P t with
  | none => none
  | some false => match vs with
    | [v] => some v
    | _ => none
  | some true => match sizeT P t with
    | none => none
    | some n => match Nat.beq n vs.length with
      | true => some (.agg vs.toArray)
      | false => none

theorem run_loadAt {P : Program} {t : TypeId} {ad : Addr} {w : World} {vs : List Value} {v : Value} (hp : packed P t vs = some v) (hc : ∀ j u, vs[j]? = some u → w.cell? (ad.add j) = some u) :
    (Instr.loadAt t (.pointer (some ad))).run P w = .ok v w := by
  unfold packed at hp
  cases ha : aggT P t with
  | none => rw [ha] at hp; cases hp
  | some b =>
    rw [ha] at hp
    cases b with
    | false =>
      match vs, hp, hc with
      | [u], hp, hc =>
        simp only [Option.some.injEq] at hp
        subst hp
        exact run_loadAt_one ha (by have := hc 0 u rfl; rwa [addr_add_zero] at this)
    | true =>
      simp only at hp
      cases hs : sizeT P t with
      | none => rw [hs] at hp; cases hp
      | some n =>
        rw [hs] at hp
        simp only at hp
        cases hb : Nat.beq n vs.length with
        | false => rw [hb] at hp; cases hp
        | true =>
          rw [hb] at hp
          simp only [Option.some.injEq] at hp
          subst hp
          have := Nat.eq_of_beq_eq_true hb
          subst this
          exact run_loadAt_agg ha hs hc

theorem Ass.box_holds {T : TypeId} {g : Nat} {cs : List Value} {w : World} {F G : Bl} (h : (Ass.box T g cs).holds w F G) : w.heap[g]? = some (.cells cs.toArray T (0, 0)) := h.1

theorem box_cell {T : TypeId} {g : Nat} {cs : List Value} {w : World} {F G : Bl} (h : (Ass.box T g cs).holds w F G) (j : Nat) : w.cell? ⟨g, j, none⟩ = cs[j]? := by
  rw [cell_of_row w g j cs.toArray T (0, 0) h.1]; simp

section
variable {P : Program} {N : Nat} {e : Env} {ops : Array Oper} {i : Nat} {Q : Exit → Act → World → Prop} {KK : Env → World → Prop} {w B : World} {os : List Ass} {rs : List Ro}

/-- an operation that yields a value -/
theorem EO.semD (S : Sem Value) (v : Value) (w' : World) (d : Nat) (h1 : ready N e ops i = true) (h2 : opSem e ops i = some (S.bind fun v => .pure (.value v))) (hd : dstOf ops i = some d) (h3 : S.run P w = .ok v w')
    (hk : KK ((d, v) :: e) w') : EO P N e ops i Q KK w := by
  refine EO.op h1 h2 fun a K' ha hK o ho hdt => ?_
  have : (S.bind fun v => (.pure (.value v) : Sem Next)).run P w = .ok (.value v) w' := by
    rw [Sem.run_bind' P S _ w, h3]; rfl
  rw [this, Oper.upon_value]
  have h5 := (ha.put (v := v) hdt)
  have : o.dst = dstOf ops i := by simp [dstOf, ho]
  rw [this, hd] at h5
  rw [this, hd]
  exact hK _ _ _ h5 hk

/-- an operation that yields v and leaves the world alone -/
structure YO (P : Program) (N : Nat) (e : Env) (ops : Array Oper) (i d : Nat) (v : Value) (w : World) : Prop where
  rdy : ready N e ops i = true
  dst : dstOf ops i = some d
  sem : ∃ S : Sem Value, opSem e ops i = some (S.bind fun v => .pure (.value v)) ∧ S.run P w = .ok v w

theorem EO.Y {d : Nat} {v : Value} (h : YO P N e ops i d v w) (hk : KK ((d, v) :: e) w) : EO P N e ops i Q KK w := by
  obtain ⟨S, h2, h3⟩ := h.sem
  exact EO.semD S v w d h.rdy h2 h.dst h3 hk

/-- an operation that yields nothing -/
theorem EO.semN (S : Sem Unit) (w' : World) (h1 : ready N e ops i = true) (h2 : opSem e ops i = some (S.bind fun _ => .pure .skip)) (hd : dstOf ops i = none) (h3 : S.run P w = .ok () w')
    (hk : KK e w') : EO P N e ops i Q KK w := by
  refine EO.op h1 h2 fun a K' ha hK o ho hdt => ?_
  have : (S.bind fun _ => (.pure .skip : Sem Next)).run P w = .ok .skip w' := by
    rw [Sem.run_bind' P S _ w, h3]; rfl
  rw [this, Oper.upon_skip]
  have h5 := (ha.put (v := undef) hdt)
  have : o.dst = dstOf ops i := by simp [dstOf, ho]
  rw [this, hd] at h5
  rw [this, hd]
  exact hK _ _ _ h5 hk

/-- a call of a function with a body -/
theorem EO.call (f : FuncId) (args : Array Value) (R : Value → World → Prop)
    (h1 : ready N e ops i = true) (h2 : (opSem e ops i).bind (pureRun P) = some (.enter f args)) (h3 : Calls P f args w (fun en w' => ∃ v, en = .returned v ∧ R v w'))
    (hk : ∀ v w', R v w' → KK (e.put (dstOf ops i) v) w') : EO P N e ops i Q KK w := by
  cases hs : opSem e ops i with
  | none => rw [hs] at h2; cases h2
  | some s =>
    rw [hs] at h2
    refine EO.op h1 hs fun a K' ha hK o ho hd => ?_
    rw [run_of_pureRun P s _ h2 w, Oper.upon_enter]
    refine h3.mono fun en w' ⟨v, he, hr⟩ => ?_
    subst he
    have : o.dst = dstOf ops i := by simp [dstOf, ho]
    rw [← this] at hk
    exact hK _ _ _ (ha.put hd) (hk v w' hr)

theorem EO.callD (f : FuncId) (args : List Value) (R : Value → World → Prop) (d : Nat)
    (h1 : ready N e ops i = true) (h2 : (opSem e ops i).bind (pureRun P) = some (.enter f args.toArray)) (hd : dstOf ops i = some d) (h3 : Calls P f args.toArray w (fun en w' => ∃ v, en = .returned v ∧ R v w'))
    (hk : ∀ v w', R v w' → KK ((d, v) :: e) w') : EO P N e ops i Q KK w :=
  EO.call f args.toArray R h1 h2 h3 fun v w' hr => by rw [hd]; exact hk v w' hr

theorem EO.callN (f : FuncId) (args : List Value) (R : Value → World → Prop)
    (h1 : ready N e ops i = true) (h2 : (opSem e ops i).bind (pureRun P) = some (.enter f args.toArray)) (hd : dstOf ops i = none) (h3 : Calls P f args.toArray w (fun en w' => ∃ v, en = .returned v ∧ R v w'))
    (hk : ∀ v w', R v w' → KK e w') : EO P N e ops i Q KK w :=
  EO.call f args.toArray R h1 h2 h3 fun v w' hr => by rw [hd]; exact hk v w' hr

/-! ### variables in memory -/
theorem EO.box (hS : St B w os rs) (T : TypeId) (x : Value) (cs : List Value) (d : Nat) (h1 : ready N e ops i = true) (h2 : opSem e ops i = some ((Instr.box T x).bind fun v => .pure (.value v))) (hd : dstOf ops i = some d) (hx : x.cells.toList = cs)
    (hk : ∀ g w', St B w' (Ass.box T g cs :: os) rs → KK ((d, .pointer (some ⟨g, 0, none⟩)) :: e) w') : EO P N e ops i Q KK w := by
  refine EO.semD _ _ (w.alloc (.cells x.cells T)) d h1 h2 hd rfl (hk _ _ ?_)
  refine hS.add (F1 := fun k => k = w.heap.size) ⟨rfl, rfl, rfl⟩ (by simp) (fun k hk => Go.heap_alloc_old w _ hk) (fun G _ => ⟨?_, fun _ => Iff.rfl⟩) (fun k hk => by subst hk; simp)
  rw [Go.heap_alloc_new, ← hx]

theorem EO.alloc (hS : St B w os rs) (T : TypeId) (z : Value) (cs : List Value) (d : Nat) (h1 : ready N e ops i = true) (h2 : opSem e ops i = some ((Instr.alloc T true (.tuple #[])).bind fun v => .pure (.value v))) (hd : dstOf ops i = some d)
    (hz : ((P.info? T).bind (·.zero)) = some z) (hx : z.cells.toList = cs)
    (hk : ∀ g w', St B w' (Ass.box T g cs :: os) rs → KK ((d, .pointer (some ⟨g, 0, none⟩)) :: e) w') : EO P N e ops i Q KK w := by
  refine EO.semD _ (.pointer (some ⟨w.heap.size, 0, none⟩)) (w.alloc (.cells z.cells T)) d h1 h2 hd ?_ (hk _ _ ?_)
  · cases hi : P.info? T with
    | none => rw [hi] at hz; cases hz
    | some ti =>
      rw [hi] at hz
      simp only [Option.bind_some] at hz
      simp [Instr.alloc, zeroValue, typeInfo, hi, hz, newVar, newRow]
  · refine hS.add (F1 := fun k => k = w.heap.size) ⟨rfl, rfl, rfl⟩ (by simp) (fun k hk => Go.heap_alloc_old w _ hk) (fun G _ => ⟨?_, fun _ => Iff.rfl⟩) (fun k hk => by subst hk; simp)
    rw [Go.heap_alloc_new, ← hx]

theorem YO.loadBox (hS : St B w os rs) (k : Nat) {T : TypeId} {g : Nat} {cs : List Value} (hk0 : os[k]? = some (Ass.box T g cs)) (t : TypeId) (j n : Nat) (v : Value) (d : Nat) (h1 : ready N e ops i = true)
    (h2 : opSem e ops i = some ((Instr.loadAt t (.pointer (some ⟨g, j, none⟩))).bind fun v => .pure (.value v))) (hd : dstOf ops i = some d) (hp : packed P t ((cs.drop j).take n) = some v) :
    YO P N e ops i d v w := by
  refine ⟨h1, hd, _, h2, run_loadAt hp fun m u hu => ?_⟩
  obtain ⟨F, G, hA⟩ := hS.own k hk0
  rw [addr_add_none, box_cell hA]
  rw [List.getElem?_take] at hu
  split at hu
  · simpa using hu
  · cases hu

theorem run_storeAt {P : Program} {t : TypeId} {g j : Nat} {w : World} {x : Value} {T : TypeId} {cur : Array Value} (hg : w.heap[g]? = some (.cells cur T (0, 0))) (hs : sizeT P t = some x.cells.size) (hfit : j + x.cells.size ≤ cur.size)
    (h1 : ∀ u ∈ x.cells.toList, u.oneCell' = true) :
    (Instr.storeAt t (.pointer (some ⟨g, j, none⟩)) x).run P w = .ok () (w.setRow g (cur.toList.take j ++ x.cells.toList ++ cur.toList.drop (j + x.cells.size)).toArray) := by
  have := run_storeCells_at P g j T x.cells.toList 0 cur w hg (by simpa using hfit) h1
  simp only [Nat.add_zero, Array.length_toList] at this
  simp [Instr.storeAt, Instr.sureAddr, storeVar, run_size hs, this]

theorem EO.storeBox (hS : St B w os rs) (k : Nat) {T : TypeId} {g : Nat} {cs : List Value} (hk0 : os[k]? = some (Ass.box T g cs)) (t : TypeId) (j : Nat) (x : Value) (cs' : List Value) (os' : List Ass) (h1 : ready N e ops i = true)
    (h2 : opSem e ops i = some ((Instr.storeAt t (.pointer (some ⟨g, j, none⟩)) x).bind fun _ => .pure .skip)) (hd : dstOf ops i = none) (hs : sizeT P t = some x.cells.size) (hfit : Nat.ble (j + x.cells.size) cs.length = true)
    (hone : x.cells.toList.all (fun u => u.oneCell') = true) (hcs : cs.take j ++ x.cells.toList ++ cs.drop (j + x.cells.size) = cs') (hos : os.set k (Ass.box T g cs') = os')
    (hk : ∀ w', St B w' os' rs → KK e w') : EO P N e ops i Q KK w := by
  obtain ⟨F1, G, hA, hF, hR, _, _, hup⟩ := hS.update k hk0
  have hr := run_storeAt (P := P) (t := t) (j := j) (x := x) hA.1 hs (by simpa using Nat.le_of_ble_eq_true hfit) (List.all_eq_true.1 hone)
  simp only at hr
  rw [hcs] at hr
  refine EO.semN _ _ h1 h2 hd hr (hk _ ?_)
  rw [← hos]
  refine hup _ (Ass.box T g cs') F1 ⟨rfl, rfl, rfl⟩ (by simp) (fun y hy hyF => Go.setRow_other w g y _ (fun h => hyF ((hA.2 y).2 h))) ⟨Go.setRow_heap w g _ _ T _ hA.1, hA.2⟩ (fun y hy => ⟨.inl hy, by simpa using hF y hy⟩)
end
end Go.Fw
