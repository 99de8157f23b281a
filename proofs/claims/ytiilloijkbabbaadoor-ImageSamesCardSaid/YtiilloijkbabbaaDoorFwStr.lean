import Derived.Test.YtiilloijkbabbaaDoorFwMut
import Derived.Lib.LaidTab
import Derived.Lib.Fields
import Derived.Laws.IdiomStrings
import Derived.Laws.Concat
import Derived.Sort.Grow
import Derived.Lib.ItoaNum
import Derived.Lib.Join
import Derived.Lib.CutLaws
import Derived.Lib.SplitLaws
import Derived.Lib.ParseIntB
import Derived.Lib.AtoiErrMem
/-! Rows of strings that a library call makes; tables that the program laid; strings indexed and joined. -/
set_option linter.unusedVariables false
set_option linter.unusedSimpArgs false
namespace Go.Fw
open Go Go.RowKit

/-- a row that a call has made -/
theorem St.made {B w : World} {os : List Ass} {rs : List Ro} (hS : St B w os rs) {α : Type} (K : Kd α) (et n : Nat) (cs : List Value) (xs : List α) (hrep : ∀ w G, RepL K w G cs xs) (hn : n = xs.length) (hm : n ≤ maxLen) :
    St B (w.alloc (.cells cs.toArray et)) (Ass.own et K (some ⟨w.heap.size, 0, none⟩) n xs :: os) rs := by
  subst hn
  refine hS.add (F1 := fun k => k = w.heap.size) ⟨rfl, rfl, rfl⟩ (by simp) (fun k hk => Go.heap_alloc_old w _ hk) (fun G hr => ?_) (fun k hk => by subst hk; simp)
  have hR := hrep (w.alloc (.cells cs.toArray et)) G
  exact ⟨cs, hR, Row.new (by rw [hR.len]) hm, fun k => by simp [Value.ownBlock, eq_comm]⟩
theorem repStr (w : World) (G : Bl) : ∀ xs : List ByteArray, RepL Kd.str w G (xs.map Value.string) xs
  | [] => rfl
  | x :: xs => ⟨[.string x], _, rfl, rfl, repStr w G xs⟩
/-- a table that was laid ahead of the call -/
theorem St.tab {P : Program} {B w : World} {os : List Ass} {rs : List Ro} (hS : St B w os rs) {name : String} {k : IntKind} {zs : List Int} (h : Lib.TabIs P B name k zs) : Lib.TabIs P w name k zs := by
  have hb := hS.below
  unfold Lib.TabIs World.var? at h ⊢
  cases hg : P.globalNamed name with
  | none => rw [hg] at h; cases h
  | some g =>
    rw [hg] at h
    simp only [Option.bind_some] at h ⊢
    by_cases hlt : g < B.heap.size
    · rw [hb.block g hlt]; exact h
    · rw [Array.getElem?_eq_none (Nat.le_of_not_lt hlt)] at h
      cases h
end Go.Fw
namespace Go.Fw
open Go Go.RowKit
/-- what strings.Fields tells, and where its contract speaks -/
def fieldsL (s : ByteArray) : List ByteArray := (Lib.fields s.data.toList).map fun l => ⟨l.toArray⟩
def fieldsOk (s : ByteArray) : Bool := decide (s.size < 4294967281) && s.data.toList.all (fun b => decide (b.toNat < 128)) && decide ((Lib.fields s.data.toList).length ≤ 16777216)
theorem fieldsOk_of {s : ByteArray} (h : fieldsOk s = true) : s.size < 4294967281 ∧ (∀ (j : Nat) b, s.data.toList[j]? = some b → b.toNat < 128) ∧ (Lib.fields s.data.toList).length ≤ 16777216 := by
  unfold fieldsOk at h
  simp only [Bool.and_eq_true, decide_eq_true_eq, List.all_eq_true] at h
  exact ⟨h.1.1, fun j b hj => h.1.2 b (List.mem_of_getElem? hj), h.2⟩
theorem fields_end {B w : World} {os : List Ass} {rs : List Ro} {s : ByteArray} {t : List ByteArray} {P : Program} {f : FuncId} (et : Nat) (hS : St B w os rs) (H : fieldsOk s = true) (ht : t = fieldsL s)
    (hc : Calls P f #[.string s] w fun e w' => e = .returned (.slice (some ⟨w.heap.size, 0, none⟩) (Lib.fields s.data.toList).length (Lib.fields s.data.toList).length) ∧ w' = w.alloc (.cells ((Lib.fields s.data.toList).map fun l => Value.string ⟨l.toArray⟩).toArray et)) :
    Calls P f [.string s].toArray w (fun en w' => ∃ v, en = .returned v ∧ ∃ A : Option Addr, ∃ C : Nat, v = .slice A t.length C ∧ St B w' (Ass.own et Kd.str A C t :: os) rs) := by
  subst ht
  refine hc.mono fun e w' hq => ?_
  obtain ⟨rfl, rfl⟩ := hq
  have hl : (fieldsL s).length = (Lib.fields s.data.toList).length := by unfold fieldsL; simp
  have hm := (fieldsOk_of H).2.2
  have h := hS.made Kd.str et (Lib.fields s.data.toList).length ((fieldsL s).map Value.string) (fieldsL s) (fun w G => repStr w G _) hl.symm (by unfold maxLen; omega)
  have he : (fieldsL s).map Value.string = (Lib.fields s.data.toList).map fun l => Value.string ⟨l.toArray⟩ := by unfold fieldsL; rw [List.map_map]; rfl
  rw [he] at h
  exact ⟨_, rfl, _, _, by rw [hl], h⟩
end Go.Fw
namespace Go.Fw
open Go Go.RowKit
section
variable {P : Program} {N : Nat} {e : Env} {ops : Array Oper} {i : Nat} {w : World}
/-- a pick of true or false -/
theorem YO.pickB (b : Bool) (d : Nat) (h1 : ready N e ops i = true) (h2 : opSem e ops i = some (.pure (.value (if b = true then .bool true else .bool false)))) (hd : dstOf ops i = some d) : YO P N e ops i d (.bool b) w :=
  ⟨h1, hd, .pure (if b = true then .bool true else .bool false), h2, by cases b <;> rfl⟩
end
end Go.Fw
namespace Go.Fw
open Go Go.RowKit
/-! ### the bytes of a string: a row with a mark behind its cells -/
def bytesL (s : ByteArray) : List Int := s.data.toList.map (fun b => (b.toNat : Int))
theorem bytesL_len (s : ByteArray) : (bytesL s).length = s.size := by unfold bytesL; rw [List.length_map, Array.length_toList]; rfl
def Ass.mrk (e : TypeId) (ad : Addr) (C : Nat) (xs : List Int) : Ass :=
  ⟨fun w F _ => ∃ cur : Array Value, ad.off = 0 ∧ ad.spot = none ∧ w.heap[ad.block]? = some (.cells cur e (cur.size, cur.size + 1)) ∧ xs.length ≤ C ∧ C ≤ maxLen ∧ xs.length ≤ cur.size ∧ cur.toList.take xs.length = xs.map (Value.int .u8) ∧ ∀ k, F k ↔ k = ad.block,
   @fun w w' F G G' ⟨cur, h0, hs, h1, h2, h3, h4, h5, h6⟩ hk _ => ⟨cur, h0, hs, (hk _ (.inl ((h6 _).2 rfl))).trans h1, h2, h3, h4, h5, h6⟩⟩
section
variable {P : Program} {N : Nat} {e : Env} {ops : Array Oper} {i : Nat} {Q : Exit → Act → World → Prop} {KK : Env → World → Prop} {w B : World} {os : List Ass} {rs : List Ro}
theorem EO.bytesOf (hS : St B w os rs) (s : ByteArray) (src dst et : TypeId) (d : Nat) (h1 : ready N e ops i = true) (h2 : opSem e ops i = some ((convert src dst (.string s)).bind fun v => .pure (.value v))) (hd : dstOf ops i = some d)
    (hs : P.underlying src = some .string) (ht : P.underlying dst = some (.slice et)) (he : P.underlying et = some (.int .u8)) (hm : s.size ≤ 16777216) {l : List Int} (hl : l = bytesL s)
    (hk : ∀ (ad : Addr) (C : Nat) w', St B w' (Ass.mrk et ad C l :: os) rs → KK ((d, .slice (some ad) l.length C) :: e) w') : EO P N e ops i Q KK w := by
  subst hl
  have hr := run_bytes_of_string (P := P) w src dst et s hs ht he
  have hge := grownCap_ge w s.size 0 et
  have hle : grownCap w s.size 0 et ≤ maxLen := grownCap_le_maxLen w s.size 0 et (by unfold maxLen; omega)
  have hsz : s.data.size = s.size := rfl
  have hrow : s.size ≤ (bytesRow s (grownCap w s.size 0 et)).size := by unfold bytesRow; rw [Array.size_append, Array.size_map]; exact Nat.le_add_right _ _
  refine EO.semD _ _ _ d h1 h2 hd hr ?_
  rw [← bytesL_len s]
  refine hk ⟨w.heap.size, 0, none⟩ _ _ ?_
  have hb := bytesL_len s
  refine hS.drew.add (F1 := fun k => k = w.heap.size) ⟨rfl, rfl, rfl⟩ (by simp) (fun k hk => Go.heap_alloc_old w.drew _ hk) (fun G hr => ?_) (fun k hk => by subst hk; exact ⟨Nat.le_refl _, by simp⟩)
  rw [hb]
  refine ⟨_, rfl, rfl, Go.heap_alloc_new w.drew _, by rw [hb]; exact hge, hle, by rw [hb]; exact hrow, ?_, fun k => Iff.rfl⟩
  rw [hb]
  unfold bytesRow bytesL
  have hl : (s.data.map (fun b => Value.int .u8 (b.toNat : Int))).toList.length = s.size := by rw [Array.length_toList, Array.size_map]; rfl
  rw [Array.toList_append, List.take_append_of_le_length (by rw [hl]; exact Nat.le_refl _), List.take_of_length_le (by rw [hl]; exact Nat.le_refl _), Array.toList_map, List.map_map]
  rfl
theorem EO.storeMrk (hS : St B w os rs) (k : Nat) (et : TypeId) (ad : Addr) (C : Nat) (xs : List Int) (hk0 : os[k]? = some (Ass.mrk et ad C xs)) (j : Int) (h0 : 0 ≤ j) (hlt : j < (xs.length : Int)) (y : Int) (zs : List Int) (hz : zs = xs.set j.toNat y) (t : TypeId) (os' : List Ass)
    (h1 : ready N e ops i = true) (h2 : opSem e ops i = some ((Instr.storeAt t (.pointer (some ((ad.add (j.toNat * 1)).add 0))) (.int .u8 y)).bind fun _ => .pure .skip)) (hd : dstOf ops i = none) (hs : sizeT P t = some 1)
    (hos : os.set k (Ass.mrk et ad C zs) = os') (hk : ∀ w', St B w' os' rs → KK e w') : EO P N e ops i Q KK w := by
  subst hz
  obtain ⟨F1, G, ⟨cur, p0, ps, p1, p2, p3, p4, p5, p6⟩, hF, hR, hO, hGF, hup⟩ := hS.update k hk0
  obtain ⟨g, off, sp⟩ := ad
  simp only at p0 ps p1 p6
  subst p0 ps
  have hj : j.toNat < xs.length := by omega
  have hjc : j.toNat < cur.size := by omega
  have hcell : w.cell? ⟨g, j.toNat, none⟩ = some cur[j.toNat] := by simp [World.cell?, p1, hjc]
  have hfro : w.frozen? ⟨g, j.toNat, none⟩ = false := by
    simp only [World.frozen?, p1, Bool.and_eq_false_iff, decide_eq_false_iff_not]
    left; omega
  have hst : (store (⟨g, j.toNat, none⟩ : Addr) (.int .u8 y)).run P w = .ok () (w.setRow g (cur.setIfInBounds j.toNat (.int .u8 y))) := by
    rw [run_store P w _ _ _ rfl, hcell]
    simp [hfro, setCell_eq_setRow w g j.toNat cur et _ (.int .u8 y) p1]
  have hr : (Instr.storeAt t (.pointer (some (⟨g, j.toNat, none⟩ : Addr))) (.int .u8 y)).run P w = .ok () (w.setRow g (cur.setIfInBounds j.toNat (.int .u8 y))) := by
    have hc : (Value.int .u8 y).cells = #[.int .u8 y] := rfl
    simp [Instr.storeAt, Instr.sureAddr, storeVar, run_size hs, hc, storeCells, addr_add_none, hst]
  refine EO.semN _ _ h1 (by rw [h2, addr_add_none, addr_add_none, Nat.mul_one, Nat.zero_add, Nat.add_zero]) hd hr (hk _ ?_)
  rw [← hos]
  refine hup _ (Ass.mrk et ⟨g, 0, none⟩ C (xs.set j.toNat y)) F1 ⟨rfl, rfl, rfl⟩ (by simp) (fun q hq hqF => Go.setRow_other w g q _ (fun h => hqF ((p6 q).2 h))) ⟨cur.setIfInBounds j.toNat (.int .u8 y), rfl, rfl, ?_, by simpa using p2, p3, by simpa using p4, ?_, p6⟩ (fun q hq => ⟨.inl hq, by simpa using hF q hq⟩)
  · have := Go.setRow_heap w g cur (cur.setIfInBounds j.toNat (.int .u8 y)) et _ p1
    rw [this]; simp
  · simp only [List.length_set, Array.toList_setIfInBounds, List.take_set, p5, List.map_set]
theorem St.frMrk (h : St B w os rs) (k : Nat) {et : TypeId} {ad : Addr} {C : Nat} {xs : List Int} (hk : os[k]? = some (Ass.mrk et ad C xs)) : St B w (os.eraseIdx k) (Ro.sl (Kd.int .u8) (some ad) C xs :: rs) := by
  refine h.freeze k hk fun F G ⟨cur, p0, ps, p1, p2, p3, p4, p5, p6⟩ => ?_
  refine ⟨_, _, rfl, .inr ⟨ad, xs.map (Value.int .u8), rfl, ps, .inr ((p6 _).2 rfl), repI w _ xs, fun j v hj => ?_⟩, p2, p3, fun h => nomatch h⟩
  obtain ⟨g, off, sp⟩ := ad
  simp only at p0 ps p1
  subst p0 ps
  rw [addr_add_none, Nat.zero_add]
  have hj' : j < xs.length := by have := (List.getElem?_eq_some_iff.1 hj).1; simpa using this
  rw [← p5, List.getElem?_take, if_pos hj'] at hj
  simp only [World.cell?, p1]
  simpa using hj
/-- one string behind the other -/
theorem YO.strCat (a b : ByteArray) (d : Nat) (h1 : ready N e ops i = true) (h2 : opSem e ops i = some ((Op.stringOp .add a b).bind fun v => .pure (.value v))) (hd : dstOf ops i = some d) (h : a.size + b.size ≤ 9223372036854775807) : YO P N e ops i d (.string (a ++ b)) w := ⟨h1, hd, _, h2, run_string_add_sum w a b h⟩
end
end Go.Fw
namespace Go.Fw
open Go Go.RowKit
/-! ### library calls that leave alone what was there -/
theorem St.after {B w w' : World} {os : List Ass} {rs : List Ro} (h : St B w os rs) (hb : Below w.heap.size w w') : St B w' os rs := by
  obtain ⟨G, F, h1, h2, h3, h4, h5⟩ := h.mem
  exact ⟨hb.os.trans h.os_, hb.tape.trans h.tape, hb.output.trans h.output, G, F, fun k hk => Nat.lt_of_lt_of_le (h1 k hk) hb.size, h2, fun k hk => ⟨(h3 k hk).1, (hb.block k (h1 k (.inl (h3 k hk).1))).trans (h3 k hk).2⟩,
    h4.loc (fun k hk => hb.block k (h1 k hk.symm)) (fun _ x => x), fun r hr => r.loc (h5 r hr) (fun k hk => hb.block k (h1 k (.inl hk))) (fun _ x => x)⟩
theorem below_grow (w : World) (k : Nat) (os : Array Obj) : Below w.heap.size w (Sort.grow (w.drewN k) os) := by
  refine ⟨rfl, rfl, rfl, ?_, fun j hj => ?_⟩
  · show w.heap.size ≤ (w.heap ++ os).size
    simp
  · show (w.heap ++ os)[j]? = w.heap[j]?
    rw [Array.getElem?_append_left hj]
theorem below_drewN (w : World) (k : Nat) : Below w.heap.size w (w.drewN k) := ⟨rfl, rfl, rfl, Nat.le_refl _, fun _ _ => rfl⟩
def i64ok (n : Int) : Bool := decide (-9223372036854775808 ≤ n ∧ n ≤ 9223372036854775807)
def itoaL (n : Int) : ByteArray := ⟨(Lib.itoa n).toArray⟩
theorem i64ok_of {n : Int} (h : i64ok n = true) : -9223372036854775808 ≤ n ∧ n ≤ 9223372036854775807 := of_decide_eq_true h
theorem str_end {B w : World} {os : List Ass} {rs : List Ro} {P : Program} {f : FuncId} {args : Array Value} {t : ByteArray} {X : World → Prop} (hS : St B w os rs) (hX : ∀ w', X w' → Below w.heap.size w w') (hc : Calls P f args w fun e w' => e = .returned (.string t) ∧ X w') :
    Calls P f args w (fun en w' => ∃ v, en = .returned v ∧ v = .string t ∧ St B w' os rs) :=
  hc.mono fun e w' hq => ⟨_, hq.1, rfl, hS.after (hX w' hq.2)⟩
def joinL (xs : List ByteArray) (sep : ByteArray) : ByteArray := ⟨(Lib.join (xs.map (·.data.toList)) sep.data.toList).toArray⟩
def joinOk (xs : List ByteArray) (sep : ByteArray) : Bool := decide (xs.length ≤ 16777216 ∧ (Lib.join (xs.map (·.data.toList)) sep.data.toList).length ≤ 140737488355328)
theorem repL_str {w : World} {G : Bl} : ∀ {xs : List ByteArray} {cs : List Value}, RepL Kd.str w G cs xs → cs = xs.map Value.string
  | [], cs, h => h
  | x :: xs, cs, ⟨a, b, e, ha, hb⟩ => by
    have ha' : a = [.string x] := ha
    subst e ha'
    rw [repL_str hb]
    rfl
theorem join_end {B w : World} {os : List Ass} {rs : List Ro} {P : Program} {f : FuncId} {A : Option Addr} {C : Nat} {xs : List ByteArray} {sep t : ByteArray} (hS : St B w os rs) (hr : Rd os rs Kd.str A C xs) (H : joinOk xs sep = true) (ht : t = joinL xs sep)
    (h0 : ∀ (a : Option Addr) (c : Nat), Calls P f #[.slice a 0 c, .string sep] w fun e w' => e = .returned (.string ⟨#[]⟩) ∧ w' = w)
    (h1 : ∀ (bk o c : Nat), (∀ (j : Nat) x, xs[j]? = some x → w.cell? ⟨bk, o + j, none⟩ = some (.string x)) → bk < w.heap.size → xs.length ≤ 140737488355328 → xs.length ≤ c → (Lib.join (xs.map (·.data.toList)) sep.data.toList).length ≤ 140737488355328 →
      Calls P f #[.slice (some ⟨bk, o, none⟩) xs.length c, .string sep] w fun e w' => e = .returned (.string ⟨(Lib.join (xs.map (·.data.toList)) sep.data.toList).toArray⟩) ∧ Below w.heap.size w w') :
    Calls P f [.slice A xs.length C, .string sep].toArray w (fun en w' => ∃ v, en = .returned v ∧ v = .string t ∧ St B w' os rs) := by
  subst ht
  have hok := of_decide_eq_true H
  obtain ⟨G, _, hc, hl, _, _⟩ := hS.rd hr
  have none_ : xs = [] → Calls P f [.slice A xs.length C, .string sep].toArray w (fun en w' => ∃ v, en = .returned v ∧ v = .string (joinL xs sep) ∧ St B w' os rs) := by
    rintro rfl
    refine (h0 A C).mono fun e w' hq => ?_
    obtain ⟨rfl, rfl⟩ := hq
    exact ⟨_, rfl, rfl, hS⟩
  rcases hc with hn | ⟨ad, cs, rfl, hs, hrep, hcell⟩
  · exact none_ hn
  · by_cases hx : xs = []
    · exact none_ hx
    · have hcs := repL_str hrep
      subst hcs
      obtain ⟨bk, o, sp⟩ := ad
      simp only at hs
      subst hs
      have hcell' : ∀ (j : Nat) x, xs[j]? = some x → w.cell? ⟨bk, o + j, none⟩ = some (.string x) := fun j x hj => by
        have := hcell j (.string x) (by rw [List.getElem?_map, hj]; rfl)
        rwa [addr_add_none] at this
      have hbk : bk < w.heap.size := by
        cases xs with
        | nil => exact absurd rfl hx
        | cons x l => exact World.block_lt_of_cell? w ⟨bk, o + 0, none⟩ (hcell' 0 x rfl)
      exact str_end hS (fun w' h => h) (h1 bk o C hcell' hbk (by omega) hl hok.2)
end Go.Fw
namespace Go.Fw
open Go Go.RowKit
/-! ### a string's byte; cut -/
def sAt (s : ByteArray) (j : Int) : Int := ((s.data.toList.getD j.toNat 0).toNat : Int)
def cutA (s sep : ByteArray) : ByteArray := ⟨(Lib.cut s.data.toList sep.data.toList).1.toArray⟩
def cutB (s sep : ByteArray) : ByteArray := ⟨(Lib.cut s.data.toList sep.data.toList).2.1.toArray⟩
def cutC (s sep : ByteArray) : Bool := (Lib.cut s.data.toList sep.data.toList).2.2
section
variable {P : Program} {N : Nat} {e : Env} {ops : Array Oper} {i : Nat} {w B : World} {os : List Ass} {rs : List Ro}
theorem YO.strIdx (s : ByteArray) (t : TypeId) (k : IntKind) (j : Int) (d : Nat) (h1 : ready N e ops i = true) (h2 : opSem e ops i = some ((Instr.index t (.string s) (.int k j)).bind fun v => .pure (.value v))) (hd : dstOf ops i = some d) (ht : P.underlying t = some .string) (h0 : 0 ≤ j) (hj : j < (s.size : Int)) :
    YO P N e ops i d (.int .u8 (sAt s j)) w := by
  refine ⟨h1, hd, _, h2, ?_⟩
  have hr := run_index_string (P := P) w t s k j ht
  rw [hr]
  have hl : j.toNat < s.data.toList.length := by rw [Array.length_toList]; show j.toNat < s.size; omega
  unfold sAt
  rw [List.getD_eq_getElem?_getD, List.getElem?_eq_getElem hl]
  simp [h0, hj]
  rfl
theorem cut_end {f : FuncId} {s sep : ByteArray} (hS : St B w os rs)
    (hc : Calls P f #[.string s, .string sep] w fun e w' => e = .returned (.tuple #[.string ⟨(Lib.cut s.data.toList sep.data.toList).1.toArray⟩, .string ⟨(Lib.cut s.data.toList sep.data.toList).2.1.toArray⟩, .bool (Lib.cut s.data.toList sep.data.toList).2.2]) ∧ ∃ n, w' = w.drewN n) :
    Calls P f [.string s, .string sep].toArray w (fun en w' => ∃ v, en = .returned v ∧ v = .tuple #[.string (cutA s sep), .string (cutB s sep), .bool (cutC s sep)] ∧ St B w' os rs) :=
  hc.mono fun e w' hq => by
    obtain ⟨rfl, n, rfl⟩ := hq
    exact ⟨_, rfl, rfl, hS.after (below_drewN w n)⟩
end
end Go.Fw
namespace Go.Fw
open Go Go.RowKit
/-! ### cells of the program's variables -/
theorem St.cellB {B w : World} {os : List Ass} {rs : List Ro} (hS : St B w os rs) {a : Addr} {v : Value} (h : B.cell? a = some v) : w.cell? a = some v := by
  have hb := hS.below
  rw [World.cell?_of_block (w := B) (hb.block _ (World.block_lt_of_cell? B a h))]
  exact h
def IntCell (w : World) (g : Nat) : Prop := ∃ m : Int, w.cell? ⟨g, 0, none⟩ = some (.int .i64 m)
def ErrCell (w : World) (g : Nat) : Prop := ∃ ev : Value, w.cell? ⟨g, 0, none⟩ = some ev ∧ (ev = .nilIface ∨ ∃ te pe, ev = .iface te pe)
theorem St.intCell {B w : World} {os : List Ass} {rs : List Ro} (hS : St B w os rs) {g : Nat} (h : IntCell B g) : IntCell w g := by
  obtain ⟨m, hm⟩ := h
  exact ⟨m, hS.cellB hm⟩
theorem St.errCell {B w : World} {os : List Ass} {rs : List Ro} (hS : St B w os rs) {g : Nat} (h : ErrCell B g) : ErrCell w g := by
  obtain ⟨m, hm, hk⟩ := h
  exact ⟨m, hS.cellB hm, hk⟩
/-! ### strconv.ParseInt -/
def parseN (B : Nat) (s : ByteArray) : Int := match Lib.parseIntB B s.data.toList with
  | .ok v => v
  | .syntax => 0
  | .range => Lib.intSat B s.data.toList
theorem parse_end {B w : World} {os : List Ass} {rs : List Ro} {P : Program} {f : FuncId} {s : ByteArray} {n : Nat} {et te : TypeId} {args : Array Value} {g1 g2 : Nat} (hS : St B w os rs) (hs : ErrCell w g1) (hr : ErrCell w g2)
    (ok : ∀ v, Lib.parseIntB n s.data.toList = .ok v → Calls P f args w fun e w' => e = .returned (.tuple #[.int .i64 v, .nilIface]) ∧ (w' = w ∨ ∃ t, w' = Lib.bytesWorld w et t))
    (sy : Lib.parseIntB n s.data.toList = .«syntax» → ∀ ev, w.cell? ⟨g1, 0, none⟩ = some ev → (ev = .nilIface ∨ ∃ te pe, ev = .iface te pe) → Calls P f args w fun e w' => ∃ N, e = .returned (.tuple #[.int .i64 (0), .iface te (.pointer (some ⟨N, 0, none⟩))]) ∧ Below w.heap.size w w')
    (ra : Lib.parseIntB n s.data.toList = .range → ∀ ev, w.cell? ⟨g2, 0, none⟩ = some ev → (ev = .nilIface ∨ ∃ te pe, ev = .iface te pe) → Calls P f args w fun e w' => ∃ N, e = .returned (.tuple #[.int .i64 (Lib.intSat n s.data.toList), .iface te (.pointer (some ⟨N, 0, none⟩))]) ∧ Below w.heap.size w w') :
    Calls P f args w (fun en w' => ∃ v, en = .returned v ∧ ∃ er : Value, v = .tuple #[.int .i64 (parseN n s), er] ∧ St B w' os rs) := by
  unfold parseN
  cases h : Lib.parseIntB n s.data.toList with
  | ok v =>
    refine (ok v h).mono fun e w' hq => ?_
    obtain ⟨rfl, hw⟩ := hq
    refine ⟨_, rfl, _, rfl, ?_⟩
    rcases hw with rfl | ⟨t, rfl⟩
    · exact hS
    · exact hS.after (Lib.bytesWorld_below w et t)
  | «syntax» =>
    obtain ⟨ev, h1, h2⟩ := hs
    refine (sy h ev h1 h2).mono fun e w' hq => ?_
    obtain ⟨N, rfl, hb⟩ := hq
    exact ⟨_, rfl, _, rfl, hS.after hb⟩
  | range =>
    obtain ⟨ev, h1, h2⟩ := hr
    refine (ra h ev h1 h2).mono fun e w' hq => ?_
    obtain ⟨N, rfl, hb⟩ := hq
    exact ⟨_, rfl, _, rfl, hS.after hb⟩
end Go.Fw
namespace Go.Fw
open Go Go.RowKit
/-! ### strings.Split -/
def splitL (s sep : ByteArray) : List ByteArray := Lib.splitB sep 0 (Lib.countB s sep) s
theorem split_end {B w : World} {os : List Ass} {rs : List Ro} {s sep : ByteArray} {t : List ByteArray} {P : Program} {f : FuncId} (et : Nat) (hS : St B w os rs) (H : s.size < 4294967281) (h1 : 1 ≤ sep.size) (ht : t = splitL s sep)
    (hc : Calls P f #[.string s, .string sep] w fun e w' => e = .returned (.slice (some ⟨w.heap.size, 0, none⟩) (Lib.countB s sep + 1) (Lib.countB s sep + 1)) ∧ w' = w.alloc (.cells ((Lib.splitB sep 0 (Lib.countB s sep) s).map Value.string).toArray et)) :
    Calls P f [.string s, .string sep].toArray w (fun en w' => ∃ v, en = .returned v ∧ ∃ A : Option Addr, ∃ C : Nat, v = .slice A t.length C ∧ St B w' (Ass.own et Kd.str A C t :: os) rs) := by
  subst ht
  refine hc.mono fun e w' hq => ?_
  obtain ⟨rfl, rfl⟩ := hq
  have hl : (splitL s sep).length = Lib.countB s sep + 1 := Lib.splitB_all sep h1 0 _ s rfl
  have hle := Lib.countB_le sep h1 s.size s (Nat.le_refl _)
  have h := hS.made Kd.str et (Lib.countB s sep + 1) ((splitL s sep).map Value.string) (splitL s sep) (fun w G => repStr w G _) hl.symm (by unfold maxLen; omega)
  exact ⟨_, rfl, _, _, by rw [hl], h⟩
end Go.Fw
