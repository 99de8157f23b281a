import Derived.Test.YtiilloijkbabbaaDoorFwStr
import Derived.Lib.FrozenHead
import Derived.Lib.UnsafeStr
import Derived.Lib.OthersKept
/-! A strings.Builder that the call has made itself. -/
set_option linter.unusedVariables false
set_option linter.unusedSimpArgs false
namespace Go.Fw
open Go Go.RowKit

theorem St.rebase {B w : World} {os : List Ass} {rs : List Ro} (h : St B w os rs) : St w w [] rs := by
  obtain ⟨G, F, h1, h2, h3, h4, h5⟩ := h.mem
  exact St.start w fun r hr => r.loc (h5 r hr) (fun _ _ => rfl) (fun k hk => h1 k (.inl hk))
theorem St.back {B w0 w : World} {os : List Ass} {rs rs' : List Ro} (h : St B w0 os rs) (hS : St w0 w [] rs') : St B w os rs := h.after hS.below
/-- a call that makes a builder is walked from its own start -/
theorem bld_entry {P : Program} {f : FuncId} {args : Array Value} {v0 : Value} {B w : World} {os : List Ass} {rs : List Ro} (hS : St B w os rs)
    (h : ∀ (B' : World) (os' : List Ass), B' = w → os' = [] → St B' B' os' rs → St B' w os' rs → Calls P f args w (fun en w' => ∃ v, en = .returned v ∧ v = v0 ∧ St B' w' os' rs)) :
    Calls P f args w (fun en w' => ∃ v, en = .returned v ∧ v = v0 ∧ St B w' os rs) :=
  (h w [] rfl rfl hS.rebase hS.rebase).mono fun en w' ⟨v, e1, e2, h3⟩ => ⟨v, e1, e2, hS.back h3⟩

theorem ownsRowF_loc {w w' : World} {base : Nat} (base' : Nat) {e : TypeId} {sz : Nat} {v : Value} {n : Nat} {xs : List Value} (h : w.ownsRowF base e sz v n xs) (hk : ∀ k, v.ownBlock = some k → w'.heap[k]? = w.heap[k]? ∧ base' ≤ k) : w'.ownsRowF base' e sz v n xs := by
  refine ⟨h.1, h.2.imp id ?_⟩
  rintro ⟨g, cap, cur, fz, rfl, hb, hg, rest⟩
  exact ⟨g, cap, cur, fz, rfl, (hk g rfl).2, (hk g rfl).1.trans hg, rest⟩

/-- a builder in block b that holds the bytes l -/
def Ass.bld (T e : TypeId) (b : Nat) (l : ByteArray) : Ass :=
  ⟨fun w F _ => ∃ p v : Value, (p = .pointer none ∨ p = .pointer (some ⟨b, 0, none⟩)) ∧ w.heap[b]? = some (.cells #[p, v] T (0, 0)) ∧ w.ownsRowF 0 e 1 v (Lib.byteCells l.data.toList).length (Lib.byteCells l.data.toList) ∧ v.ownBlock ≠ some b ∧ ∀ k, F k ↔ (k = b ∨ v.ownBlock = some k),
   @fun w w' F G G' ⟨p, v, h1, h2, h3, h4, h5⟩ hk _ => ⟨p, v, h1, (hk b (.inl ((h5 b).2 (.inl rfl)))).trans h2, ownsRowF_loc 0 h3 (fun k hkk => ⟨hk k (.inl ((h5 k).2 (.inr hkk))), Nat.zero_le _⟩), h4, h5⟩⟩
theorem bld_is {T e : TypeId} {b n : Nat} {l : ByteArray} {w : World} {F G : Bl} (h : (Ass.bld T e b l).holds w F G) (hn : ∀ k, F k → n ≤ k) : Lib.IsBuilderF T e n b (Lib.byteCells l.data.toList) w := by
  obtain ⟨p, v, h1, h2, h3, h4, h5⟩ := h
  have hb := hn b ((h5 b).2 (.inl rfl))
  have h3' := ownsRowF_loc (w' := w) n h3 (fun k hk => ⟨rfl, hn k ((h5 k).2 (.inr hk))⟩)
  rcases h1 with rfl | rfl
  · exact .inl ⟨hb, v, h2, h3', h4⟩
  · exact .inr ⟨hb, v, h2, h3', h4⟩
theorem is_bld {T e : TypeId} {b n : Nat} {l : ByteArray} {w : World} (G : Bl) (h : Lib.IsBuilderF T e n b (Lib.byteCells l.data.toList) w) : ∃ F : Bl, (Ass.bld T e b l).holds w F G ∧ F b ∧ ∀ k, F k → (n ≤ k ∧ k < w.heap.size) ∧ (k = b ∨ ∃ cs fz, w.heap[k]? = some (.cells cs e fz)) := by
  have key : ∀ p, (p = Value.pointer none ∨ p = .pointer (some ⟨b, 0, none⟩)) → Lib.BuilderAtF T e n b p (Lib.byteCells l.data.toList) w → ∃ F : Bl, (Ass.bld T e b l).holds w F G ∧ F b ∧ ∀ k, F k → (n ≤ k ∧ k < w.heap.size) ∧ (k = b ∨ ∃ cs fz, w.heap[k]? = some (.cells cs e fz)) := by
    intro p hp h
    have hlt := h.lt
    obtain ⟨hB, v, h2, h3, h4⟩ := h
    refine ⟨fun k => k = b ∨ v.ownBlock = some k, ⟨p, v, hp, h2, ownsRowF_loc 0 h3 (fun k _ => ⟨rfl, Nat.zero_le _⟩), h4, fun _ => Iff.rfl⟩, .inl rfl, fun k hk => ?_⟩
    rcases hk with rfl | hk
    · exact ⟨⟨hB, hlt⟩, .inl rfl⟩
    · refine ⟨h3.lt k hk, .inr ?_⟩
      rcases h3.2 with ⟨rfl, _⟩ | ⟨g, cap, cur, fz, rfl, hb, hg, _⟩
      · simp [Value.ownBlock] at hk
      · simp [Value.ownBlock] at hk
        subst hk
        exact ⟨_, _, hg⟩
  rcases h with h | h
  · exact key _ (.inl rfl) h
  · exact key _ (.inr rfl) h

/-- parts none of which is a row of that type -/
def NoRow (e : TypeId) (os : List Ass) : Prop := ∀ A ∈ os, ∃ T g cs, A = Ass.box T g cs ∧ T ≠ e
theorem noRow_nil {e : TypeId} {os : List Ass} (h : os = []) : NoRow e os := by subst h; intro A hA; cases hA
theorem noRow_cons {e T : TypeId} {g : Nat} {cs : List Value} {os : List Ass} (h : T ≠ e) (h2 : NoRow e os) : NoRow e (Ass.box T g cs :: os) := by
  intro A hA
  rcases List.mem_cons.1 hA with rfl | hA
  · exact ⟨T, g, cs, rfl, h⟩
  · exact h2 A hA
theorem noRow_kept {e : TypeId} {w w' : World} {b : Nat} (hk : Lib.OthersKept e (some b) w w') {G G' : Bl} : ∀ {os : List Ass} {F : Bl}, NoRow e os → AllO w G os F → ¬ F b → AllO w' G' os F ∧ ∀ k, F k → ∃ cs T, T ≠ e ∧ w'.heap[k]? = some (.cells cs T (0, 0))
  | [], F, _, h, _ => ⟨h, fun k hk => absurd hk (h k)⟩
  | A :: l, F, hn, ⟨F1, F2, h1, h2, h3, h4⟩, hb => by
    obtain ⟨T, g, cs, rfl, hT⟩ := hn A (List.mem_cons_self ..)
    obtain ⟨i1, i2⟩ := noRow_kept hk (G' := G') (fun A hA => hn A (List.mem_cons_of_mem _ hA)) h2 (fun h => hb ((h4 b).2 (.inr h)))
    obtain ⟨g1, g2⟩ := h1
    have hgb : g ≠ b := fun h => hb ((h4 b).2 (.inl ((g2 b).2 h.symm)))
    have hg' := hk g _ g1 (fun h => hgb (Option.some.inj h)) (fun c fz h => hT (by injection h))
    refine ⟨⟨F1, F2, ⟨hg', g2⟩, i1, h3, h4⟩, fun k hk => ?_⟩
    rcases (h4 k).1 hk with hk | hk
    · obtain rfl := (g2 k).1 hk
      exact ⟨_, T, hT, hg'⟩
    · exact i2 k hk

section
variable {P : Program} {N : Nat} {e : Env} {ops : Array Oper} {i : Nat} {Q : Exit → Act → World → Prop} {KK : Env → World → Prop} {w B : World} {os os0 : List Ass} {rs rs1 : List Ro}
theorem EO.bld (hS : St B w os rs) (T et : TypeId) (z : Value) (d : Nat) (h1 : ready N e ops i = true) (h2 : opSem e ops i = some ((Instr.alloc T true (.tuple #[])).bind fun v => .pure (.value v))) (hd : dstOf ops i = some d)
    (hz : ((P.info? T).bind (·.zero)) = some z) (hx : z.cells = #[.pointer none, .slice none 0 0])
    (hk : ∀ g w', St B w' (Ass.bld T et g ⟨#[]⟩ :: os) rs → KK ((d, .pointer (some ⟨g, 0, none⟩)) :: e) w') : EO P N e ops i Q KK w := by
  refine EO.semD _ (.pointer (some ⟨w.heap.size, 0, none⟩)) (w.alloc (.cells z.cells T)) d h1 h2 hd ?_ (hk _ _ ?_)
  · cases hi : P.info? T with
    | none => rw [hi] at hz; cases hz
    | some ti =>
      rw [hi] at hz
      simp only [Option.bind_some] at hz
      simp [Instr.alloc, zeroValue, typeInfo, hi, hz, newVar, newRow]
  · rw [hx]
    refine hS.add (F1 := fun k => k = w.heap.size) ⟨rfl, rfl, rfl⟩ (by simp) (fun k hk => Go.heap_alloc_old w _ hk) (fun G _ => ⟨_, _, .inl rfl, Go.heap_alloc_new w _, ⟨rfl, .inl ⟨rfl, rfl⟩⟩, by simp [Value.ownBlock], fun k => by simp [Value.ownBlock]⟩) (fun k hk => by subst hk; simp)
/-- a fact on what was there at the start holds still -/
theorem St.carry {r : Ro} (h0 : St B B os0 (r :: rs1)) (hS : St B w os rs) : St B w os (r :: rs) := by
  obtain ⟨G0, F0, k1, k2, k3, k4, k5⟩ := h0.mem
  obtain ⟨G, F, h1, h2, h3, h4, h5⟩ := hS.mem
  refine ⟨hS.os_, hS.tape, hS.output, G, F, h1, h2, h3, h4, fun r' hr' => ?_⟩
  rcases List.mem_cons.1 hr' with rfl | hr'
  · exact r'.loc (k5 r' (List.mem_cons_self ..)) (fun k hk => (h3 k (k1 k (.inl hk))).2) (fun k hk => (h3 k (k1 k (.inl hk))).1)
  · exact h5 r' hr'
/-- a load of an element that is a slice, where a builder is at hand -/
theorem EO.loadSl2 {α : Type} (h0 : St B B os0 rs1) (hS : St B w os rs) (K : Kd α) (ad : Addr) (C : Nat) (xs : List (List α)) (hr : Rd os0 rs1 K.slice (some ad) C xs) (j : Int) (hj : 0 ≤ j) (hlt : j < (xs.length : Int))
    (t : TypeId) (d : Nat) (h1 : ready N e ops i = true) (h2 : opSem e ops i = some ((Instr.loadAt t (.pointer (some ((ad.add (j.toNat * 1)).add 0)))).bind fun v => .pure (.value v))) (hd : dstOf ops i = some d) (ht : aggT P t = some false)
    (hk : ∀ A' C', St B B os0 (Ro.sl K A' C' (xs.getD j.toNat []) :: rs1) → St B w os (Ro.sl K A' C' (xs.getD j.toNat []) :: rs) → KK ((d, .slice A' (xs.getD j.toNat []).length C') :: e) w) : EO P N e ops i Q KK w := by
  obtain ⟨vs, hS', hlen, hc⟩ := h0.elem hr (getD_some [] hj hlt)
  obtain ⟨G, hG⟩ := hS'.ro (List.mem_cons_self ..)
  obtain ⟨a, c, hvs, _⟩ := hG
  subst hvs
  have hcell := hc 0 1 undef (.inr trivial) 0 _ rfl
  exact EO.semD _ _ w d h1 h2 hd (run_loadAt_one ht (by rw [addr_add_zero] at hcell ⊢; rw [addr_add_zero] at hcell; exact hS.cellB hcell)) (hk a c hS' (hS'.carry hS))
theorem bld_step {T et : TypeId} {g : Nat} {l : ByteArray} (h0 : St B B os0 rs1) (hS : St B w (Ass.bld T et g l :: os) rs) (hn : NoRow et os) :
    (Lib.IsBuilderF T et B.heap.size g (Lib.byteCells l.data.toList) w ∧ B.heap.size ≤ w.heap.size) ∧
    ∀ w', Below B.heap.size w w' → Lib.OthersKept et (some g) w w' → St B w' os rs1 ∧ ∀ l', Lib.IsBuilderF T et B.heap.size g (Lib.byteCells l'.data.toList) w' → St B w' (Ass.bld T et g l' :: os) rs1 := by
  have hb := hS.below
  obtain ⟨G0, F0, k1, k2, k3, k4, k5⟩ := h0.mem
  obtain ⟨G, F, h1, h2, h3, ⟨F1, F2, hB, hR, hdis, hF⟩, h5⟩ := hS.mem
  have hge : ∀ k, F k → B.heap.size ≤ k := fun k hk => by
    rcases Nat.lt_or_ge k B.heap.size with h | h
    · exact absurd hk (h2 k (h3 k h).1)
    · exact h
  have hI := bld_is hB (fun k hk => hge k ((hF k).2 (.inl hk)))
  have hFg : F1 g := by obtain ⟨p, v, _, _, _, _, h⟩ := hB; exact (h g).2 (.inl rfl)
  refine ⟨⟨hI, hb.size⟩, fun w' hbl hok => ?_⟩
  have hb' := hb.trans hbl
  have hGr : ∀ k, G0 k → w'.heap[k]? = B.heap[k]? := fun k hk => hb'.block k (k1 k (.inl hk))
  obtain ⟨i1, i2⟩ := noRow_kept hok (G' := fun k => k < B.heap.size) hn hR (hdis g hFg)
  have hlt : ∀ k, F2 k → k < w'.heap.size := fun k hk => by
    obtain ⟨cs, T', _, h⟩ := i2 k hk
    exact (Array.getElem?_eq_some_iff.1 h).1
  have hr1 : ∀ r ∈ rs1, r.holds w' (fun k => k < B.heap.size) := fun r hr => r.loc (k5 r hr) hGr (fun k hk => k1 k (.inl hk))
  refine ⟨⟨hb'.os, hb'.tape, hb'.output, fun k => k < B.heap.size, F2, ?_, ?_, fun k hk => ⟨hk, hb'.block k hk⟩, i1, hr1⟩, fun l' hl' => ?_⟩
  · intro k hk
    rcases hk with hk | hk
    · exact Nat.lt_of_lt_of_le hk hb'.size
    · exact hlt k hk
  · intro k hk hf
    exact absurd (hge k ((hF k).2 (.inr hf))) (Nat.not_le_of_lt hk)
  · obtain ⟨F', hF', hg', hF2⟩ := is_bld (fun k => k < B.heap.size) hl'
    refine ⟨hb'.os, hb'.tape, hb'.output, fun k => k < B.heap.size, fun k => F' k ∨ F2 k, ?_, ?_, fun k hk => ⟨hk, hb'.block k hk⟩, ⟨F', F2, hF', i1, ?_, fun _ => Iff.rfl⟩, hr1⟩
    · intro k hk
      rcases hk with hk | hk | hk
      · exact Nat.lt_of_lt_of_le hk hb'.size
      · exact (hF2 k hk).1.2
      · exact hlt k hk
    · intro k hk hf
      rcases hf with hf | hf
      · exact absurd (hF2 k hf).1.1 (Nat.not_le_of_lt hk)
      · exact absurd (hge k ((hF k).2 (.inr hf))) (Nat.not_le_of_lt hk)
    · intro k hk hf
      rcases (hF2 k hk).2 with rfl | ⟨cs, fz, h⟩
      · exact hdis k hFg hf
      · obtain ⟨cs', T', hT, h'⟩ := i2 k hf
        rw [h] at h'
        injection h' with h'
        injection h' with _ h'
        exact hT h'.symm
theorem bld_write {f : FuncId} {T et : TypeId} {g : Nat} {l s t : ByteArray} (h0 : St B B os0 rs1) (hS : St B w (Ass.bld T et g l :: os) rs) (hn : NoRow et os) (ht : t = l ++ s)
    (hc : Lib.IsBuilderF T et B.heap.size g (Lib.byteCells l.data.toList) w → B.heap.size ≤ w.heap.size → Calls P f #[.pointer (some ⟨g, 0, none⟩), .string s] w fun e' w' => e' = .returned (.tuple #[.int .i64 s.size, .nilIface]) ∧ (Lib.BuilderAtF T et B.heap.size g (.pointer (some ⟨g, 0, none⟩)) (Lib.byteCells l.data.toList ++ Lib.strCells s) w' ∧ Below B.heap.size w w' ∧ Lib.OthersKept et (some g) w w')) :
    Calls P f [.pointer (some ⟨g, 0, none⟩), .string s].toArray w (fun en w' => ∃ v, en = .returned v ∧ v = .tuple #[.int .i64 s.size, .nilIface] ∧ St B w' (Ass.bld T et g t :: os) rs1) := by
  subst ht
  obtain ⟨⟨hI, hb⟩, hk⟩ := bld_step h0 hS hn
  refine (hc hI hb).mono fun e' w' hq => ?_
  obtain ⟨rfl, h1, h2, h3⟩ := hq
  refine ⟨_, rfl, rfl, (hk w' h2 h3).2 _ (.inr ?_)⟩
  rw [show Lib.byteCells (l ++ s).data.toList = Lib.byteCells l.data.toList ++ Lib.strCells s by rw [Lib.strCells_eq, ← Lib.byteCells_append]; simp [ByteArray.data_append]]
  exact h1
theorem bld_string {f : FuncId} {T et : TypeId} {g : Nat} {l : ByteArray} (h0 : St B B os0 rs1) (hS : St B w (Ass.bld T et g l :: os) rs) (hn : NoRow et os)
    (hc : Lib.IsBuilderF T et B.heap.size g (Lib.byteCells l.data.toList) w → B.heap.size ≤ w.heap.size → Calls P f #[.pointer (some ⟨g, 0, none⟩)] w fun e' w' => e' = .returned (.string ⟨l.data.toList.toArray⟩) ∧ (Lib.IsBuilderF T et B.heap.size g (Lib.byteCells l.data.toList) w' ∧ Below B.heap.size w w' ∧ Lib.OthersKept et (some g) w w')) :
    Calls P f [.pointer (some ⟨g, 0, none⟩)].toArray w (fun en w' => ∃ v, en = .returned v ∧ v = .string l ∧ St B w' os rs1) := by
  obtain ⟨⟨hI, hb⟩, hk⟩ := bld_step h0 hS hn
  refine (hc hI hb).mono fun e' w' hq => ?_
  obtain ⟨rfl, h1, h2, h3⟩ := hq
  exact ⟨_, rfl, rfl, (hk w' h2 h3).1⟩
end
end Go.Fw
