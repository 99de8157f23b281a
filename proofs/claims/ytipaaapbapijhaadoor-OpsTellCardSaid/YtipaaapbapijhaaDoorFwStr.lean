import Derived.Test.YtipaaapbapijhaaDoorFwMut
import Derived.Lib.LaidTab
import Derived.Lib.Fields
/-! Rows of strings that a library call makes; tables that the program laid; strings indexed and joined. -/
set_option linter.unusedVariables false
set_option linter.unusedSimpArgs false
namespace Go.Fw
open Go Go.RowKit

/-- a row that a call has made -/
theorem St.made {B w : World} {os : List Ass} {rs : List Ro} (hS : St B w os rs) {α : Type} (K : Kd α) (et n : Nat) (cs : List Value) (xs : List α) (hrep : ∀ w G, RepL K w G cs xs) (hn : n = xs.length) (hm : n ≤ maxLen) :
    St B (w.alloc (.cells cs.toArray et)) (Ass.own et K (some ⟨w.heap.size, 0, none⟩) n xs :: os) rs := by
  subst hn
  refine hS.add (F1 := fun k => k = w.heap.size) ⟨rfl, rfl, rfl⟩ (by simp) (fun k hk => Go.heap_alloc_old w _ hk) (fun G hr => ?_) (fun k hk => by subst hk; simp)
  have hR := hrep (w.alloc (.cells cs.toArray et)) G
  exact ⟨cs, hR, Row.new (by rw [hR.len]) hm, fun k => by simp [Value.ownBlock, eq_comm]⟩
theorem repStr (w : World) (G : Bl) : ∀ xs : List ByteArray, RepL Kd.str w G (xs.map Value.string) xs
  | [] => rfl
  | x :: xs => ⟨[.string x], _, rfl, rfl, repStr w G xs⟩
/-- a table that was laid ahead of the call -/
theorem St.tab {P : Program} {B w : World} {os : List Ass} {rs : List Ro} (hS : St B w os rs) {name : String} {k : IntKind} {zs : List Int} (h : Lib.TabIs P B name k zs) : Lib.TabIs P w name k zs := by
  have hb := hS.below
  unfold Lib.TabIs World.var? at h ⊢
  cases hg : P.globalNamed name with
  | none => rw [hg] at h; cases h
  | some g =>
    rw [hg] at h
    simp only [Option.bind_some] at h ⊢
    by_cases hlt : g < B.heap.size
    · rw [hb.block g hlt]; exact h
    · rw [Array.getElem?_eq_none (Nat.le_of_not_lt hlt)] at h
      cases h
end Go.Fw
namespace Go.Fw
open Go Go.RowKit
/-- what strings.Fields tells, and where its contract speaks -/
def fieldsL (s : ByteArray) : List ByteArray := (Lib.fields s.data.toList).map fun l => ⟨l.toArray⟩
def fieldsOk (s : ByteArray) : Bool := decide (s.size < 4294967281) && s.data.toList.all (fun b => decide (b.toNat < 128)) && decide ((Lib.fields s.data.toList).length ≤ 16777216)
theorem fieldsOk_of {s : ByteArray} (h : fieldsOk s = true) : s.size < 4294967281 ∧ (∀ (j : Nat) b, s.data.toList[j]? = some b → b.toNat < 128) ∧ (Lib.fields s.data.toList).length ≤ 16777216 := by
  unfold fieldsOk at h
  simp only [Bool.and_eq_true, decide_eq_true_eq, List.all_eq_true] at h
  exact ⟨h.1.1, fun j b hj => h.1.2 b (List.mem_of_getElem? hj), h.2⟩
theorem fields_end {B w : World} {os : List Ass} {rs : List Ro} {s : ByteArray} {t : List ByteArray} {P : Program} {f : FuncId} (et : Nat) (hS : St B w os rs) (H : fieldsOk s = true) (ht : t = fieldsL s)
    (hc : Calls P f #[.string s] w fun e w' => e = .returned (.slice (some ⟨w.heap.size, 0, none⟩) (Lib.fields s.data.toList).length (Lib.fields s.data.toList).length) ∧ w' = w.alloc (.cells ((Lib.fields s.data.toList).map fun l => Value.string ⟨l.toArray⟩).toArray et)) :
    Calls P f [.string s].toArray w (fun en w' => ∃ v, en = .returned v ∧ ∃ A : Option Addr, ∃ C : Nat, v = .slice A t.length C ∧ St B w' (Ass.own et Kd.str A C t :: os) rs) := by
  subst ht
  refine hc.mono fun e w' hq => ?_
  obtain ⟨rfl, rfl⟩ := hq
  have hl : (fieldsL s).length = (Lib.fields s.data.toList).length := by unfold fieldsL; simp
  have hm := (fieldsOk_of H).2.2
  have h := hS.made Kd.str et (Lib.fields s.data.toList).length ((fieldsL s).map Value.string) (fieldsL s) (fun w G => repStr w G _) hl.symm (by unfold maxLen; omega)
  have he : (fieldsL s).map Value.string = (Lib.fields s.data.toList).map fun l => Value.string ⟨l.toArray⟩ := by unfold fieldsL; rw [List.map_map]; rfl
  rw [he] at h
  exact ⟨_, rfl, _, _, by rw [hl], h⟩
end Go.Fw
namespace Go.Fw
open Go Go.RowKit
section
variable {P : Program} {N : Nat} {e : Env} {ops : Array Oper} {i : Nat} {w : World}
/-- a pick of true or false -/
theorem YO.pickB (b : Bool) (d : Nat) (h1 : ready N e ops i = true) (h2 : opSem e ops i = some (.pure (.value (if b = true then .bool true else .bool false)))) (hd : dstOf ops i = some d) : YO P N e ops i d (.bool b) w :=
  ⟨h1, hd, .pure (if b = true then .bool true else .bool false), h2, by cases b <;> rfl⟩
end
end Go.Fw
