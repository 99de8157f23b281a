import Derived.Test.YtiilloijkbabbaaDoorFwEq
/-! The rules of code once more, in short words: where a piece of code stands in its own code is told by the goal. -/
set_option linter.unusedVariables false
set_option linter.unusedSimpArgs false
namespace Go.Fw
open Go Go.RowKit

def _root_.Go.Code.isSeq : Code → Bool | .seq .. => true | _ => false
def _root_.Go.Code.isReg : Code → Bool | .region _ _ false => true | _ => false
def _root_.Go.Code.isDraw : Code → Bool | .region _ _ true => true | _ => false
def _root_.Go.Code.isLoop : Code → Bool | .loop .. => true | _ => false
def _root_.Go.Code.isCond : Code → Bool | .cond .. => true | _ => false
def _root_.Go.Code.isBl (id : Nat) : Code → Bool | .block n _ => Nat.beq n id | _ => false
def _root_.Go.Code.cnd : Code → Operand | .cond o _ _ => o | _ => .const undef

theorem isSeq_eq {c : Code} (h : c.isSeq = true) : c = .seq c.l c.r := by cases c <;> first | rfl | cases h
theorem isCond_eq {c : Code} (h : c.isCond = true) : c = .cond c.cnd c.l c.r := by cases c <;> first | rfl | cases h
theorem isLoop_eq {c : Code} (h : c.isLoop = true) : c = .loop c.l := by cases c <;> first | rfl | cases h
theorem isBl_eq {c : Code} {id : Nat} (h : c.isBl id = true) : c = .block id c.l := by
  cases c <;> first | (cases h; done) | skip
  case block n x => have := Nat.eq_of_beq_eq_true (show Nat.beq n id = true from h); subst this; rfl
theorem isReg_eq {c : Code} (h : c.isReg = true) : ∃ id, c = .region id c.ops false := by
  cases c <;> first | (cases h; done) | skip
  case region id ops d => cases d with
    | true => cases h
    | false => exact ⟨id, rfl⟩
theorem isDraw_eq {c : Code} (h : c.isDraw = true) : ∃ id, c = .region id c.ops true := by
  cases c <;> first | (cases h; done) | skip
  case region id ops d => cases d with
    | false => cases h
    | true => exact ⟨id, rfl⟩

section
variable {P : Program} {N : Nat} {e : Env} {Q : Exit → Act → World → Prop} {Q0 : Exit → Act → World → Prop} {K : List Kont} {w B : World} {c : Code}
theorem EW.sq (h : c.isSeq = true) (hk : EW P N e c.l (KQ P Q0 (.code c.r :: K)) w) : EW P N e c (KQ P Q0 K) w := EW.seq (isSeq_eq h) hk
theorem EW.rg (h : c.isReg = true) (hk : EL P N e c.ops 0 Q w) : EW P N e c Q w := by obtain ⟨id, hc⟩ := isReg_eq h; exact EW.region hc hk
theorem EW.bl (id : Nat) (h : c.isBl id = true) (hk : EW P N e c.l (KQ P Q0 (.block id :: K)) w) : EW P N e c (KQ P Q0 K) w := EW.block (isBl_eq h) hk
theorem EW.ct (I : Act → World → Prop) (h : c.isSeq = true) (h1 : EW P N e c.l (KQ P Q0 (.to I :: K)) w) (hk : ∀ a w, I a w → c.r.wp P (KQ P Q0 K) a w) : EW P N e c (KQ P Q0 K) w := EW.cut I (isSeq_eq h) h1 hk
theorem EW.lp (I : Nat → Act → World → Prop) (k0 : Nat) (h : c.isLoop = true) (h0 : EQ N e (I k0) w)
    (round : ∀ k a w, I k a w → c.l.wp P (KQ P Q0 (.to (fun a w => ∃ k', k' < k ∧ I k' a w) :: K)) a w) : EW P N e c (KQ P Q0 K) w := EW.loop I k0 (isLoop_eq h) h0 round
theorem EW.cdT (h : c.isCond = true) (hb : e.get c.cnd = some (.bool true)) (ht : EW P N e c.l Q w) : EW P N e c Q w := EW.condT (isCond_eq h) hb ht
theorem EW.cdF (h : c.isCond = true) (hb : e.get c.cnd = some (.bool false)) (hf : EW P N e c.r Q w) : EW P N e c Q w := EW.condF (isCond_eq h) hb hf
theorem EW.cdP (p : Prop) [Decidable p] (h : c.isCond = true) (hb : e.get c.cnd = some (.bool (decide p))) (ht : p → EW P N e c.l Q w) (hf : ¬ p → EW P N e c.r Q w) : EW P N e c Q w := EW.condP p (isCond_eq h) hb ht hf
theorem EW.cdP' (b : Bool) (h : c.isCond = true) (hb : e.get c.cnd = some (.bool b)) (ht : b = true → EW P N e c.l Q w) (hf : ¬ b = true → EW P N e c.r Q w) : EW P N e c Q w := EW.condP' b (isCond_eq h) hb ht hf
theorem EW.cdQ (p : Prop) [Decidable p] (s : Bool) {b : Bool} (h : c.isCond = true) (hb : e.get c.cnd = some (.bool b)) (hp : (p → b = s) ∧ (¬ p → b = !s))
    (ht : p → EW P N e (if s then c.l else c.r) Q w) (hf : ¬ p → EW P N e (if s then c.r else c.l) Q w) : EW P N e c Q w := EW.condQ p s (isCond_eq h) hb hp ht hf
theorem EW.dr (co : List Ass) (cr : List Ro) (h : c.isDraw = true) (hm : P.follows .mixedOrders = true)
    (hk : ED P N B co cr e c.ops (Array.replicate c.ops.size false) c.ops.size (KQ P Q0 K) w.drew) : EW P N e c (KQ P Q0 K) w := by obtain ⟨id, hc⟩ := isDraw_eq h; exact EW.draw co cr hc hm hk
theorem EW.mt (I : Act → World → Prop) (h : c.isDraw = true) (h1 : EW P N e c (KQ P Q0 (.to I :: K)) w) (hk : ∀ a w, I a w → KQ P Q0 K .normal a w) : EW P N e c (KQ P Q0 K) w := by
  obtain ⟨id, hc⟩ := isDraw_eq h; exact EW.meet (ops := c.ops) I hc h1 hk
end

abbrev ia (x : Int) : Value := .int .i64 x
abbrev ib (x : Int) : Value := .int .i32 x
abbrev ic (x : Int) : Value := .int .u64 x
abbrev ie (x : Int) : Value := .int .u32 x
abbrev ig (x : Int) : Value := .int .u8 x
abbrev pt (g o : Nat) : Value := .pointer (some ⟨g, o, none⟩)
abbrev ag (l : List Value) : Value := .agg l.toArray
abbrev sv {α : Type} (A : Option Addr) (C : Nat) (l : List α) : Value := .slice A l.length C
/-- which operations are done: n of them, by the bits of m -/
def bm (n m : Nat) : Array Bool := ((List.range n).map fun i => m.testBit i).toArray

/-! ### arrays that are variables, at a place that is not known -/
theorem flat_at {α β : Type} (enc : α → List β) (z : α) (sz : Nat) (hsz : ∀ x, (enc x).length = sz) : ∀ (xs : List α) (i : Nat), i < xs.length → ((xs.flatMap enc).drop (i * sz)).take sz = enc (xs.getD i z)
  | [], i, h => by simp at h
  | x :: xs, 0, h => by simp [List.flatMap_cons, ← hsz x]
  | x :: xs, i + 1, h => by
    have := flat_at enc z sz hsz xs i (by simpa using h)
    rw [List.flatMap_cons, Nat.add_mul, Nat.one_mul, Nat.add_comm, ← hsz x, ← List.drop_drop, List.drop_left, hsz x, this]
    simp
theorem flat_len {α β : Type} (enc : α → List β) (sz : Nat) (hsz : ∀ x, (enc x).length = sz) : ∀ (xs : List α), (xs.flatMap enc).length = xs.length * sz
  | [] => by simp
  | x :: xs => by rw [List.flatMap_cons, List.length_append, flat_len enc sz hsz xs, hsz x, List.length_cons, Nat.add_mul]; omega

section
variable {P : Program} {N : Nat} {e : Env} {ops : Array Oper} {i : Nat} {w B : World} {os : List Ass} {rs : List Ro}
theorem YO.idxBox (hS : St B w os rs) (k : Nat) {T : TypeId} {g : Nat} {cs : List Value} (hk0 : os[k]? = some (Ass.box T g cs)) (t n sz : Nat) (ki : IntKind) (j : Int) (d : Nat) (h1 : ready N e ops i = true)
    (h2 : opSem e ops i = some ((Instr.indexAt t (.pointer (some ⟨g, 0, none⟩)) (.int ki j)).bind fun v => .pure (.value v))) (hd : dstOf ops i = some d) (ht : arrT P t = some (n, sz)) (h0 : 0 ≤ j) (hlt : j < (n : Int)) :
    YO P N e ops i d (.pointer (some ⟨g, j.toNat * sz + 0, none⟩)) w := by
  refine ⟨h1, hd, _, h2, ?_⟩
  unfold arrT at ht
  cases hu : P.underlying t with
  | none => rw [hu] at ht; cases ht
  | some dd =>
    rw [hu] at ht
    cases dd <;> try (cases ht)
    case array n' e' =>
      simp only at ht
      cases hs : sizeT P e' with
      | none => rw [hs] at ht; cases ht
      | some s =>
        rw [hs] at ht
        simp only [Option.some.injEq, Prod.mk.injEq] at ht
        obtain ⟨rfl, rfl⟩ := ht
        simp [Instr.indexAt, asIntOf, run_underlying hu, Instr.sureAddr, h0, hlt, run_size hs, addr_add_none]

theorem YO.loadBoxEl (hS : St B w os rs) (k : Nat) {T : TypeId} {g : Nat} {cs : List Value} (hk0 : os[k]? = some (Ass.box T g cs)) {α : Type} (xs : List α) (enc : α → List Value) (z : α) (sz : Nat) (hcs : cs = xs.flatMap enc)
    (hsz : ∀ x, (enc x).length = sz) (j : Int) (h0 : 0 ≤ j) (hlt : j < (xs.length : Int)) (t off m : Nat) (v : Value) (d : Nat) (h1 : ready N e ops i = true)
    (h2 : opSem e ops i = some ((Instr.loadAt t (.pointer (some ⟨g, j.toNat * sz + off, none⟩))).bind fun v => .pure (.value v))) (hd : dstOf ops i = some d)
    (hp : packed P t (((enc (xs.getD j.toNat z)).drop off).take m) = some v) : YO P N e ops i d v w := by
  refine ⟨h1, hd, _, h2, run_loadAt hp fun q u hu => ?_⟩
  obtain ⟨F, G, hA⟩ := hS.own k hk0
  rw [addr_add_none, box_cell hA]
  have hj : j.toNat < xs.length := by omega
  have hf := flat_at enc z sz hsz xs j.toNat hj
  rw [List.getElem?_take] at hu
  split at hu
  · rw [← hf, List.drop_take, List.drop_drop, List.getElem?_take] at hu
    split at hu
    · rw [List.getElem?_drop] at hu
      rw [hcs]; exact hu
    · cases hu
  · cases hu
end
end Go.Fw
