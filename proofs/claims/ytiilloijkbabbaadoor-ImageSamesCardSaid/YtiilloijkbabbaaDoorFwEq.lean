import Derived.Test.YtiilloijkbabbaaDoorFwPin
import Derived.Laws.StructEq
import Derived.ChangeKeysEq
/-! Structs and arrays compared. -/
set_option linter.unusedVariables false
set_option linter.unusedSimpArgs false
namespace Go.Fw
open Go Go.RowKit

/-- whether two values are alike, field by field -/
def eqV (P : Program) : Nat → TypeId → Value → Value → Option Bool
  | 0, _, _, _ => none
  | d + 1, t, x, y => match P.underlying t with
    | some .bool => match x, y with
      | .bool a, .bool b => some (a == b)
      | _, _ => none
    | some (.int _) => match x, y with
      | .int k a, .int k' b => match k, k' with
        | .i64, .i64 | .i32, .i32 | .i16, .i16 | .i8, .i8 | .u64, .u64 | .u32, .u32 | .u16, .u16 | .u8, .u8 => some (a == b)
        | _, _ => none
      | _, _ => none
    | some .string => match x, y with
      | .string a, .string b => some (a.toList == b.toList)
      | _, _ => none
    | some (.struct fs) => match x, y with
      | .agg xs, .agg ys => match P.stoodInHeld t with
        | true => none
        | false => fs.toList.foldr (fun f r => match f.name == "_" with
          | true => none
          | false => match pureRun P (part f.type xs f.offset), pureRun P (part f.type ys f.offset), r with
            | some a, some b, some r => match eqV P d f.type a b with
              | some p => some (p && r)
              | none => none
            | _, _, _ => none) (some true)
      | _, _ => none
    | some (.array n e) => match x, y with
      | .agg xs, .agg ys => match P.info? e with
        | none => none
        | some i => (List.range n).foldr (fun j r => match pureRun P (part e xs (j * P.cellsOf e)), pureRun P (part e ys (j * P.cellsOf e)), r with
          | some a, some b, some r => match eqV P d e a b with
            | some p => some (p && r)
            | none => none
          | _, _, _ => none) (some true)
      | _, _ => none
    | _ => none

theorem eqV_sound {P : Program} : ∀ (d : Nat) (t : TypeId) (x y : Value) (r : Bool), eqV P d t x y = some r → ∀ w, (Op.equalIn d t x y).run P w = .ok r w
  | 0, _, _, _, _, h, _ => by cases h
  | d + 1, t, x, y, r, h, w => by
    have ih := eqV_sound (P := P) d
    unfold eqV at h
    split at h
    · rename_i hu
      split at h
      · simp only [Option.some.injEq] at h; subst h; exact run_equalIn_bool w d t _ _ hu
      · cases h
    · rename_i hu
      split at h
      · rename_i k0 _ _ k a k' b
        have hk : k = k' ∧ (a == b) = r := by
          split at h <;> first | (cases h; done) | (simp only [Option.some.injEq] at h; exact ⟨rfl, h⟩)
        obtain ⟨rfl, rfl⟩ := hk
        exact run_equalIn_int w d t k _ a b hu
      · cases h
    · rename_i hu
      split at h
      · simp only [Option.some.injEq] at h; subst h; exact run_equalIn_string w d t _ _ hu
      · cases h
    · rename_i fs hu
      split at h
      · rename_i _ _ xs ys
        split at h
        · cases h
        · rename_i hst
          have hfo : P.fieldsOf t = fs := by unfold Program.fieldsOf; rw [hu]
          rw [run_equalIn_struct w d t xs ys (by rw [hfo]; exact hu) hst, hfo]
          generalize fs.toList = l at h
          clear hu hst hfo
          induction l generalizing r with
          | nil => simp only [List.foldr_nil, Option.some.injEq] at h; subst h; simp [Op.eqFields]
          | cons f l ihl =>
            simp only [List.foldr_cons] at h
            split at h
            · cases h
            · rename_i hn
              split at h
              · rename_i a b r' ha hb hr
                split at h
                · rename_i p hp
                  simp only [Option.some.injEq] at h
                  subst h
                  have hn' : f.name ≠ "_" := by simpa using hn
                  have h1 := run_of_pureRun P _ _ ha w
                  have h2 := run_of_pureRun P _ _ hb w
                  have h3 := ih _ _ _ _ hp w
                  have h4 := ihl _ hr
                  simp only [Op.eqFields, if_pos hn', Sem.run_bind, h1, h2, h3, Result.andThen_ok]
                  cases p
                  · simp
                  · simp [h4]
                · cases h
              · cases h
      · cases h
    · rename_i n e hu
      split at h
      · rename_i _ _ xs ys
        split at h
        · cases h
        · rename_i i hi
          rw [run_equalIn_array (w := w) d xs ys hu hi]
          generalize List.range n = l at h
          clear hu hi
          induction l generalizing r with
          | nil => simp only [List.foldr_nil, Option.some.injEq] at h; subst h; simp [Op.eqItems]
          | cons j l ihl =>
            simp only [List.foldr_cons] at h
            split at h
            · rename_i a b r' ha hb hr
              split at h
              · rename_i p hp
                simp only [Option.some.injEq] at h
                subst h
                have h1 := run_of_pureRun P _ _ ha w
                have h2 := run_of_pureRun P _ _ hb w
                have h3 := ih _ _ _ _ hp w
                have h4 := ihl _ hr
                simp only [Op.eqItems, Sem.run_bind, h1, h2, h3, Result.andThen_ok]
                cases p
                · simp
                · simp [h4]
              · cases h
            · cases h
      · cases h
    · cases h

section
variable {P : Program} {N : Nat} {e : Env} {ops : Array Oper} {i : Nat} {w : World}

/-- two structs or arrays compared -/
theorem YO.eqAg (op : BinOp) (t : TypeId) (x y : Operand) (xs ys : Array Value) (b v : Bool) (d : Nat) (h1 : ready N e ops i = true)
    (h2 : opSem e ops i = some ((do eqGuard op t x y (.agg xs) (.agg ys); binOp op t (.agg xs) (.agg ys) : Sem Value).bind fun v => .pure (.value v))) (hd : dstOf ops i = some d) (hg : P.eqGuardType P.depth t = false)
    (he : eqV P 10000 t (.agg xs) (.agg ys) = some b) (hv : (op = .eql ∧ v = b) ∨ (op = .neq ∧ v = !b)) : YO P N e ops i d (.bool v) w := by
  refine ⟨h1, hd, _, h2, ?_⟩
  have hs := eqV_sound 10000 t _ _ _ he w
  rcases hv with ⟨rfl, rfl⟩ | ⟨rfl, rfl⟩
  · rw [Sem.run_bind, run_eqGuard_agg w _ t x y xs ys hg, Result.andThen_ok, run_eql_struct, hs, Result.andThen_ok]
  · rw [Sem.run_bind, run_eqGuard_agg w _ t x y xs ys hg, Result.andThen_ok, run_neq_struct, hs, Result.andThen_ok]
end

/-- an array's length, and the number of cells of its elements -/
def arrT (P : Program) (t : TypeId) : Option (Nat × Nat) := match P.underlying t with
  | some (.array n e) => match sizeT P e with
    | some s => some (n, s)
    | none => none
  | _ => none

/-- a place in an array that is part of an element -/
theorem YO.idxEp {P : Program} {N : Nat} {e : Env} {ops : Array Oper} {i : Nat} {w B : World} {os : List Ass} {rs : List Ro} {α : Type} (hS : St B w os rs) {K : Kd α} {ad : Addr} {C : Nat} {xs : List α} (hr : Rd os rs K (some ad) C xs) (j : Int) (h0 : 0 ≤ j) (hlt : j < (xs.length : Int)) (t sz off n es m : Nat) (k : IntKind) (d : Nat) (h1 : ready N e ops i = true)
    (h2 : opSem e ops i = some ((Instr.indexAt t (.pointer (some ((ad.add (j.toNat * sz)).add off))) (.int k (m : Int))).bind fun v => .pure (.value v))) (hd : dstOf ops i = some d) (ht : arrT P t = some (n, es)) (hm : Nat.blt m n = true) : YO P N e ops i d (.pointer (some ((ad.add (j.toNat * sz)).add (off + m * es)))) w := by
  refine ⟨h1, hd, _, h2, ?_⟩
  have hsp : ad.spot = none := by
    obtain ⟨G, _, hc, _⟩ := hS.rd hr
    rcases hc with hn | ⟨ad', cs, ha, hs, _⟩
    · subst hn; simp at hlt; omega
    · injection ha with ha; subst ha; exact hs
  have hm' : m < n := Nat.le_of_ble_eq_true hm
  unfold arrT at ht
  cases hu : P.underlying t with
  | none => rw [hu] at ht; cases ht
  | some dd =>
    rw [hu] at ht
    cases dd <;> try (cases ht)
    case array n' e' =>
      simp only at ht
      cases hs : sizeT P e' with
      | none => rw [hs] at ht; cases ht
      | some s =>
        rw [hs] at ht
        simp only [Option.some.injEq, Prod.mk.injEq] at ht
        obtain ⟨rfl, rfl⟩ := ht
        have h3 : (0 : Int) ≤ (m : Int) := by omega
        have h4 : (m : Int) < (n' : Int) := by omega
        simp [Instr.indexAt, asIntOf, run_underlying hu, Instr.sureAddr, hm', run_size hs, addr_add_add hsp, Nat.add_assoc]

/-- an array's length, if its elements are of one cell -/
def flatT (P : Program) (t : TypeId) : Option Nat := match P.underlying t with
  | some (.array n e) => match sizeT P e, aggT P e with
    | some 1, some false => some n
    | _, _ => none
  | _ => none

/-- a place of an array of single cells -/
theorem YO.idxOne {P : Program} {N : Nat} {e : Env} {ops : Array Oper} {i : Nat} {w : World} (t n : Nat) (cs : Array Value) (k : IntKind) (j : Int) (v : Value) (d : Nat) (h1 : ready N e ops i = true)
    (h2 : opSem e ops i = some ((Instr.index t (.agg cs) (.int k j)).bind fun v => .pure (.value v))) (hd : dstOf ops i = some d) (ht : flatT P t = some n) (h0 : 0 ≤ j) (hlt : j < (n : Int)) (hv : cs.toList[j.toNat]? = some v) : YO P N e ops i d v w := by
  refine ⟨h1, hd, _, h2, ?_⟩
  unfold flatT at ht
  cases hu : P.underlying t with
  | none => rw [hu] at ht; cases ht
  | some dd =>
    rw [hu] at ht
    cases dd <;> try (cases ht)
    case array n' e' =>
      simp only at ht
      cases hs : sizeT P e' with
      | none => rw [hs] at ht; cases ht
      | some s =>
        cases ha : aggT P e' with
        | none => rw [hs, ha] at ht; split at ht <;> simp_all
        | some b =>
          rw [hs, ha] at ht
          split at ht
          · rename_i h1 h2
            cases h1; cases h2
            simp only [Option.some.injEq] at ht
            subst ht
            have hv' : cs[j.toNat]? = some v := by simpa using hv
            simp [Instr.index, asIntOf, run_underlying hu, h0, hlt, run_size hs, part, run_isAgg ha, hv']
          · cases ht

/-- all but some places hold one thing -/
inductive NilAt (v : Value) (L : List Nat) : Nat → List Value → Prop
  | nil (k : Nat) : NilAt v L k []
  | eq {k : Nat} {r : List Value} : NilAt v L (k + 1) r → NilAt v L k (v :: r)
  | mem {k : Nat} {u : Value} {r : List Value} : L.contains k = true → NilAt v L (k + 1) r → NilAt v L k (u :: r)
theorem nilAt_get' {v : Value} {L : List Nat} : ∀ {cs : List Value} {k : Nat}, NilAt v L k cs → ∀ m, m < cs.length → k + m ∉ L → cs[m]? = some v
  | _, k, .nil _, m, hm, _ => by simp at hm
  | _, k, .eq _, 0, _, _ => rfl
  | _, k, .mem h _, 0, _, hL => absurd (by simpa using h) hL
  | _, k, .eq h, m + 1, hm, hL => by
    have := nilAt_get' h m (by simpa using hm) (by rwa [Nat.add_assoc, Nat.add_comm 1 m])
    simpa using this
  | _, k, .mem _ h, m + 1, hm, hL => by
    have := nilAt_get' h m (by simpa using hm) (by rwa [Nat.add_assoc, Nat.add_comm 1 m])
    simpa using this
theorem nilAt_get {v : Value} {L : List Nat} {cs : List Value} (h : NilAt v L 0 cs) {m : Nat} (hm : m < cs.length) (hL : m ∉ L) : cs[m]? = some v := nilAt_get' h m hm (by rwa [Nat.zero_add])

theorem oneTmp {P : Program} {e : Env} {os : List Ass} {t : Tmp} {v : Value} (h : e.at t = some v) : OneRes P e os (.tmp t) v := h

theorem lt_set {α : Type} {xs l : List α} {i : Nat} {y : α} {j : Int} (h : j < (xs.length : Int)) (hl : l = xs.set i y) : j < (l.length : Int) := by rw [hl, List.length_set]; exact h
theorem len_set {α : Type} {xs l : List α} {i n : Nat} {y : α} (h : xs.length = n) (hl : l = xs.set i y) : l.length = n := by rw [hl, List.length_set]; exact h
end Go.Fw
