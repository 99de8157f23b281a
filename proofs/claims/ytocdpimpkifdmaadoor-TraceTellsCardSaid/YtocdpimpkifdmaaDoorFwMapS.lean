import Derived.Test.YtocdpimpkifdmaaDoorFwMap
/-! Maps from integers to strings that a call has made for itself. -/
set_option linter.unusedVariables false
set_option linter.unusedSimpArgs false
namespace Go.Fw
open Go Go.RowKit

/-- what a map holds of x; nothing where it holds nothing -/
def sget : List (Int × ByteArray) → Int → ByteArray
  | [], _ => ⟨#[]⟩
  | p :: l, x => if p.1 = x then p.2 else sget l x
def shas : List (Int × ByteArray) → Int → Bool
  | [], _ => false
  | p :: l, x => if p.1 = x then true else shas l x
def sput : List (Int × ByteArray) → Int → ByteArray → List (Int × ByteArray)
  | [], x, v => [(x, v)]
  | p :: l, x, v => if p.1 = x then (x, v) :: l else p :: sput l x v

def srow (j : IntKind) (l : List (Int × ByteArray)) : List (Value × Value) := l.map fun p => (.int j p.1, .string p.2)

def Ass.mps (j : IntKind) (A : Option Addr) (l : List (Int × ByteArray)) : Ass where
  holds := fun w F G => ∃ g, A = some ⟨g, 0, none⟩ ∧ (∃ es clock, w.heap[g]? = some (.map es clock) ∧ es.toList.map (fun e => (e.key, e.val)) = srow j l) ∧ ∀ x, F x ↔ x = g
  loc := by
    rintro w w' F G G' ⟨g, h1, ⟨es, c, h2, h3⟩, h4⟩ hh hG
    exact ⟨g, h1, ⟨es, c, (hh g (.inl ((h4 g).2 rfl))).trans h2, h3⟩, h4⟩

theorem findNow_srow {P : Program} {kt : TypeId} {j q : IntKind} (x : Int) : ∀ (l : List (Int × ByteArray)) (es : List MapEntry) (n : Nat), es.map (fun e => (e.key, e.val)) = srow j l →
    (shas l x = true ∧ ∃ i, i < es.length ∧ Instr.findNow (.int q) (.int j x) es n = some (some (n + i, .string (sget l x))) ∧ ((es[i]?).map (·.key)) = some (.int j x) ∧
        ∀ v : ByteArray, (es.modify i fun e => { e with key := .int j x, val := .string v }).map (fun e => (e.key, e.val)) = srow j (sput l x v)) ∨
    (shas l x = false ∧ sget l x = ⟨#[]⟩ ∧ Instr.findNow (.int q) (.int j x) es n = some none ∧ ∀ v : ByteArray, sput l x v = l ++ [(x, v)])
  | [], es, n, h => by
    have : es = [] := by simpa [srow] using h
    subst this
    exact .inr ⟨rfl, rfl, rfl, fun _ => rfl⟩
  | p :: l, [], n, h => by simp [srow] at h
  | p :: l, e :: es, n, h => by
    simp only [srow, List.map_cons, List.cons.injEq, Prod.mk.injEq] at h
    obtain ⟨⟨h1, h2⟩, h3⟩ := h
    by_cases hp : p.1 = x
    · subst hp
      refine .inl ⟨by simp [shas], 0, by simp, ?_, by simp [h1], fun v => ?_⟩
      · simp [Instr.findNow, Instr.sameNow, h1, h2, sget]
      · simp only [List.modify_zero_cons, List.map_cons, sput, if_true, srow]
        rw [h3]
    · have hx : ¬ x = p.1 := fun g => hp g.symm
      have hf : Instr.findNow (.int q) (.int j x) (e :: es) n = Instr.findNow (.int q) (.int j x) es (n + 1) := by
        have hb : (x == p.1) = false := by simpa using hx
        simp [Instr.findNow, Instr.sameNow, h1, hb]
      rcases findNow_srow (P := P) (kt := kt) (q := q) x l es (n + 1) h3 with ⟨g1, i, g2, g3, g4, g5⟩ | ⟨g1, g2, g3, g4⟩
      · refine .inl ⟨by simp [shas, hp, g1], i + 1, by simp; omega, ?_, by simpa using g4, fun v => ?_⟩
        · rw [hf, g3]
          simp [sget, hp]
          omega
        · simp only [List.modify_succ_cons, List.map_cons, sput, if_neg hp, g5 v, h1, h2]
          rfl
      · refine .inr ⟨by simp [shas, hp, g1], by simp [sget, hp, g2], by rw [hf, g3], fun v => ?_⟩
        simp [sput, hp, g4 v]

section
variable {P : Program} {N : Nat} {e : Env} {ops : Array Oper} {i : Nat} {Q : Exit → Act → World → Prop} {KK : Env → World → Prop} {w B : World} {os : List Ass} {rs : List Ro}

theorem EO.makeMapS (hS : St B w os rs) (t : TypeId) (j : IntKind) (d : Nat) (h1 : ready N e ops i = true) (h2 : opSem e ops i = some ((Instr.makeMap t none).bind fun v => .pure (.value v))) (hd : dstOf ops i = some d)
    (hk : ∀ A w', St B w' (Ass.mps j A [] :: os) rs → KK ((d, .map (mref A)) :: e) w') : EO P N e ops i Q KK w := by
  refine EO.semD _ _ (w.alloc (.map #[] 0)) d h1 h2 hd ?_ (hk (some ⟨w.heap.size, 0, none⟩) _ ?_)
  · rfl
  · refine hS.add (F1 := fun k => k = w.heap.size) ⟨rfl, rfl, rfl⟩ (by simp) (fun k hk => Go.heap_alloc_old w _ hk) (fun G _ => ⟨w.heap.size, rfl, ⟨#[], 0, Go.heap_alloc_new w _, rfl⟩, fun _ => Iff.rfl⟩) (fun k hk => by subst hk; simp)

theorem run_lookupS {t kt et : TypeId} {j q : IntKind} (ht : P.underlying t = some (.map kt et)) (hkt : P.underlying kt = some (.int q)) (hz : ((P.info? et).bind (·.zero)) = some (.string ⟨#[]⟩)) {g : Nat} {es : Array MapEntry} {c : Nat} (hg : w.heap[g]? = some (.map es c)) {l : List (Int × ByteArray)}
    (hl : es.toList.map (fun e => (e.key, e.val)) = srow j l) (x : Int) (ok : Bool) : (Instr.lookup t (.map (some g)) (.int j x) ok).run P w = .ok (if ok then .tuple #[.string (sget l x), .bool (shas l x)] else .string (sget l x)) w := by
  have hzz : (zeroValue et).run P w = .ok (.string ⟨#[]⟩) w := by
    cases hi : P.info? et with
    | none => rw [hi] at hz; cases hz
    | some ti =>
      rw [hi] at hz
      simp only [Option.bind_some] at hz
      simp [zeroValue, typeInfo, hi, hz]
  have hgo : (getObj g).run P w = .ok (.map es c) w := MapKept.run_getObj_map hg
  rcases findNow_srow (P := P) (kt := kt) (q := q) x l es.toList 0 hl with ⟨g1, n, g2, g3, g4, g5⟩ | ⟨g1, g2, g3, g4⟩
  · have hf : (Instr.findKey kt (.int j x) es.toList).run P w = .ok (some (0 + n, .string (sget l x))) w := by
      unfold Instr.findKey
      rw [Sem.run_bind, run_underlying hkt w]
      simp only [Result.andThen, g3]
      rfl
    unfold Instr.lookup
    simp [run_underlying ht, hgo, run_checkKey hkt, hf, g1]
  · have hf : (Instr.findKey kt (.int j x) es.toList).run P w = .ok none w := by
      unfold Instr.findKey
      rw [Sem.run_bind, run_underlying hkt w]
      simp only [Result.andThen, g3]
      rfl
    unfold Instr.lookup
    simp [run_underlying ht, hgo, run_checkKey hkt, hf, hzz, g1, g2]

theorem YO.mapGetS (hS : St B w os rs) (m : Nat) {j : IntKind} {A : Option Addr} {l : List (Int × ByteArray)} (hm : os[m]? = some (Ass.mps j A l)) (q : IntKind) (t kt et : TypeId) (x : Int) (d : Nat) (ht : P.underlying t = some (.map kt et)) (hkt : P.underlying kt = some (.int q)) (hz : ((P.info? et).bind (·.zero)) = some (.string ⟨#[]⟩))
    (h1 : ready N e ops i = true) (h2 : opSem e ops i = some ((Instr.lookup t (.map (mref A)) (.int j x) false).bind fun v => .pure (.value v))) (hd : dstOf ops i = some d) : YO P N e ops i d (.string (sget l x)) w := by
  obtain ⟨F, G, g, rfl, ⟨es, c, hg, hl⟩, _⟩ := hS.own m hm
  exact ⟨h1, hd, _, h2, run_lookupS ht hkt hz hg hl x false⟩

theorem YO.mapGet2S (hS : St B w os rs) (m : Nat) {j : IntKind} {A : Option Addr} {l : List (Int × ByteArray)} (hm : os[m]? = some (Ass.mps j A l)) (q : IntKind) (t kt et : TypeId) (x : Int) (d : Nat) (ht : P.underlying t = some (.map kt et)) (hkt : P.underlying kt = some (.int q)) (hz : ((P.info? et).bind (·.zero)) = some (.string ⟨#[]⟩))
    (h1 : ready N e ops i = true) (h2 : opSem e ops i = some ((Instr.lookup t (.map (mref A)) (.int j x) true).bind fun v => .pure (.value v))) (hd : dstOf ops i = some d) : YO P N e ops i d (.tuple #[.string (sget l x), .bool (shas l x)]) w := by
  obtain ⟨F, G, g, rfl, ⟨es, c, hg, hl⟩, _⟩ := hS.own m hm
  exact ⟨h1, hd, _, h2, run_lookupS ht hkt hz hg hl x true⟩

theorem EO.mapPutS (hS : St B w os rs) (m : Nat) {j : IntKind} {A : Option Addr} {l : List (Int × ByteArray)} (hm : os[m]? = some (Ass.mps j A l)) (q : IntKind) (t kt et : TypeId) (x : Int) (v : ByteArray) (os' : List Ass) (ht : P.underlying t = some (.map kt et)) (hkt : P.underlying kt = some (.int q))
    (h1 : ready N e ops i = true) (h2 : opSem e ops i = some ((Instr.mapUpdate t (.map (mref A)) (.int j x) (.string v)).bind fun _ => .pure .skip)) (hd : dstOf ops i = none) {l' : List (Int × ByteArray)} (hl' : l' = sput l x v) (hos : os.set m (Ass.mps j A l') = os')
    (hk : ∀ w', St B w' os' rs → KK e w') : EO P N e ops i Q KK w := by
  subst hl'
  obtain ⟨F1, G, ⟨g, rfl, ⟨es, c, hg, hl⟩, hFg⟩, hF, hR, _, _, hup⟩ := hS.update m hm
  have hgo : (getObj g).run P w = .ok (.map es c) w := MapKept.run_getObj_map hg
  have hso : ∀ o, (setObj g o).run P w = .ok () (ChangeMaps.setBlock w g o) := fun o => by rw [MapKept.run_setObj_map o hg]; rfl
  have main : ∃ es' c', (Instr.mapUpdate t (.map (mref (some ⟨g, 0, none⟩))) (.int j x) (.string v)).run P w = .ok () (ChangeMaps.setBlock w g (.map es' c')) ∧ es'.toList.map (fun e => (e.key, e.val)) = srow j (sput l x v) := by
    rcases findNow_srow (P := P) (kt := kt) (q := q) x l es.toList 0 hl with ⟨g1, n, g2, g3, g4, g5⟩ | ⟨g1, g2, g3, g4⟩
    · have hf : (Instr.findKey kt (.int j x) es.toList).run P w = .ok (some (0 + n, .string (sget l x))) w := by
        unfold Instr.findKey
        rw [Sem.run_bind, run_underlying hkt w]
        simp only [Result.andThen, g3]
        rfl
      have hold : ((es[0 + n]?).map (·.key)).getD (.int j x) = .int j x := by
        rw [Nat.zero_add]
        have : es[n]? = es.toList[n]? := by simp
        rw [this, g4]; rfl
      have hst : (Instr.keyThatStays (.int j x) (.int j x)).run P w = .ok (.int j x) w := by
        unfold Instr.keyThatStays
        have : Instr.sameBits 10000 (.int j x) (.int j x) = true := by simp [Instr.sameBits]
        rw [this]; rfl
      refine ⟨es.modify (0 + n) (fun e => { e with key := .int j x, val := .string v }), c, ?_, ?_⟩
      · unfold Instr.mapUpdate mref
        simp [run_underlying ht, hgo, run_checkKey hkt, hf]
        simp only [Nat.zero_add] at hold
        rw [hold, hst]
        simp only [Result.andThen, hso]
      · rw [Nat.zero_add, Array.toList_modify]
        exact g5 v
    · have hf : (Instr.findKey kt (.int j x) es.toList).run P w = .ok none w := by
        unfold Instr.findKey
        rw [Sem.run_bind, run_underlying hkt w]
        simp only [Result.andThen, g3]
        rfl
      refine ⟨es.push { key := .int j x, val := .string v, born := c }, c + 1, ?_, ?_⟩
      · unfold Instr.mapUpdate mref
        simp [run_underlying ht, hgo, run_checkKey hkt, hf, hso]
      · rw [Array.toList_push, List.map_append, hl, g4 v]
        simp [srow]
  obtain ⟨es', c', hr, hrow⟩ := main
  refine EO.semN _ _ h1 h2 hd hr (hk _ ?_)
  rw [← hos]
  refine hup _ (Ass.mps j (some ⟨g, 0, none⟩) (sput l x v)) F1 ⟨rfl, rfl, rfl⟩ (by simp [ChangeMaps.setBlock]) (fun y hy hyF => ChangeMaps.heap_setBlock_other hg _ (fun h => hyF ((hFg y).2 h))) ⟨g, rfl, ⟨es', c', ChangeMaps.heap_setBlock_same hg _, hrow⟩, hFg⟩ (fun y hy => ⟨.inl hy, by simpa [ChangeMaps.setBlock] using hF y hy⟩)
end
end Go.Fw
