import Derived.WalkKit
import Derived.KernelRfl
import Derived.Deep.LoopGhost
import Derived.Deep.Quiet
/-!
  A symbolic executor by reflection: what a frame holds is told by a list of slots and values; operations that only reckon are run by the kernel; what memory holds is told by a list of owned parts and a list of facts on what nobody writes.
-/
set_option linter.unusedVariables false
set_option linter.unusedSimpArgs false
namespace Go.Fw
open Go

/-! ## Frames -/
abbrev Env := List (Nat × Value)

def Env.at : Env → Nat → Option Value
  | [], _ => none
  | (k, v) :: r, t => match Nat.beq k t with
    | true => some v
    | false => Env.at r t

def Env.get (e : Env) : Operand → Option Value
  | .tmp t => e.at t
  | .const v => some v
  | .global g => some (.pointer (some ⟨g, 0, none⟩))
  | .func f => some (.func (.func f) #[] #[])

def Env.ev (e : Env) (x : Operand) : Value := match e.get x with
  | some v => v
  | none => undef

def Env.put (e : Env) (d : Option Tmp) (v : Value) : Env := match d with
  | some d => (d, v) :: e
  | none => e

def Env.keep (e : Env) : List Nat → Option Env
  | [] => some []
  | t :: r => match e.at t with
    | none => none
    | some v => match e.keep r with
      | none => none
      | some e' => some ((t, v) :: e')

structure Sat (N : Nat) (e : Env) (a : Act) : Prop where
  defers : a.defers = []
  size : a.tmps.size = N
  slots : ∀ t v, e.at t = some v → a.tmps[t]? = some v

theorem at_cons (k : Nat) (v : Value) (r : Env) (t : Nat) : Env.at ((k, v) :: r) t = if k = t then some v else Env.at r t := by
  show (match Nat.beq k t with | true => some v | false => Env.at r t) = _
  by_cases h : k = t
  · subst h; rw [Nat.beq_refl, if_pos rfl]
  · rw [if_neg h]; cases hb : Nat.beq k t with
    | true => exact absurd (Nat.eq_of_beq_eq_true hb) h
    | false => rfl

theorem Sat.eval {N : Nat} {e : Env} {a : Act} {x : Operand} {v : Value} (h : Sat N e a) (hx : e.get x = some v) : a.eval x = v := by
  cases x with
  | tmp t =>
    have := h.slots t v hx
    simp [Act.eval, this]
  | const c => simpa [Env.get, Act.eval] using hx
  | global g => simpa [Env.get, Act.eval] using hx
  | func f => simpa [Env.get, Act.eval] using hx

theorem Sat.ev {N : Nat} {e : Env} {a : Act} {x : Operand} (h : Sat N e a) (hx : (e.get x).isSome = true) : a.eval x = e.ev x := by
  cases hg : e.get x with
  | none => rw [hg] at hx; cases hx
  | some v => rw [h.eval hg]; simp [Env.ev, hg]

theorem Sat.put {N : Nat} {e : Env} {a : Act} {d : Option Tmp} {v : Value} (h : Sat N e a) (hd : ∀ t, d = some t → t < N) : Sat N (e.put d v) (a.put d v) := by
  cases d with
  | none => exact h
  | some d =>
    have hdN := hd d rfl
    refine ⟨h.defers, by simp [Act.put, h.size], fun t u hu => ?_⟩
    have hu' : Env.at ((d, v) :: e) t = some u := hu
    rw [at_cons] at hu'
    simp only [Act.put, Array.getElem?_setIfInBounds]
    by_cases hdt : d = t
    · subst hdt
      rw [if_pos rfl] at hu'
      rw [if_pos rfl, if_pos (by rw [h.size]; exact hdN)]
      exact hu'
    · rw [if_neg hdt] at hu'
      rw [if_neg hdt]
      exact h.slots t u hu'

theorem Sat.weaken {N : Nat} {e e' : Env} {a : Act} (h : Sat N e a) (hs : ∀ t v, e'.at t = some v → e.at t = some v) : Sat N e' a :=
  ⟨h.defers, h.size, fun t v ht => h.slots t v (hs t v ht)⟩

theorem keep_at {e : Env} : ∀ {l : List Nat} {e' : Env}, e.keep l = some e' → ∀ t v, e'.at t = some v → e.at t = some v
  | [], e', h, t, v, ht => by
    simp only [Env.keep, Option.some.injEq] at h
    subst h
    cases ht
  | s :: r, e', h, t, v, ht => by
    simp only [Env.keep] at h
    cases h1 : e.at s with
    | none => rw [h1] at h; cases h
    | some u =>
      rw [h1] at h
      cases h2 : e.keep r with
      | none => rw [h2] at h; cases h
      | some e2 =>
        rw [h2] at h
        simp only [Option.some.injEq] at h
        subst h
        rw [at_cons] at ht
        by_cases hst : s = t
        · subst hst; rw [if_pos rfl] at ht; rw [h1]; exact ht
        · rw [if_neg hst] at ht; exact keep_at h2 t v ht

theorem Sat.keep {N : Nat} {e e' : Env} {a : Act} {l : List Nat} (h : Sat N e a) (hk : e.keep l = some e') : Sat N e' a := h.weaken (keep_at hk)

/-! ## Operations that only reckon -/
def pureRun (P : Program) {α : Type} : Sem α → Option α
  | .pure a => some a
  | .program k => pureRun P (k P)
  | _ => none

theorem run_of_pureRun (P : Program) {α : Type} : ∀ (s : Sem α) (a : α), pureRun P s = some a → ∀ w, s.run P w = .ok a w
  | .pure b, a, h, w => by simp only [pureRun, Option.some.injEq] at h; subst h; rfl
  | .program k, a, h, w => by
    simp only [pureRun] at h
    show (k P).run P w = _
    exact run_of_pureRun P (k P) a h w
  | .load .., _, h, _ => by cases h
  | .store .., _, h, _ => by cases h
  | .new .., _, h, _ => by cases h
  | .shape .., _, h, _ => by cases h
  | .freeze .., _, h, _ => by cases h
  | .frozen .., _, h, _ => by cases h
  | .getObj .., _, h, _ => by cases h
  | .setObj .., _, h, _ => by cases h
  | .choose .., _, h, _ => by cases h
  | .sys .., _, h, _ => by cases h
  | .mark .., _, h, _ => by cases h
  | .halt .., _, h, _ => by cases h

/-- the operations that this executor takes -/
def taken : Op → Bool
  | .select .. | .go .. | .defer .. | .recv .. | .send .. => false
  | _ => true

theorem execOp_congr (o : Oper) (ρ ρ' : Operand → Value) (ht : taken o.op = true) (h : ∀ x ∈ o.op.operands.toList, ρ x = ρ' x) : execOp ρ o = execOp ρ' o := by
  obtain ⟨dst, op, type, pos, after, guard⟩ := o
  have hm : ∀ (l : List (Nat × Operand)), (∀ x ∈ l.map (·.2), ρ x = ρ' x) → l.map (fun (i, x) => (i, ρ x)) = l.map (fun (i, x) => (i, ρ' x)) := by
    intro l hl
    induction l with
    | nil => rfl
    | cons p l ih =>
      simp only [List.map_cons, List.mem_cons, forall_eq_or_imp] at hl ⊢
      rw [hl.1, ih hl.2]
  have ha : ∀ (l : List Operand), (∀ x ∈ l, ρ x = ρ' x) → l.map ρ = l.map ρ' := fun l hl => List.map_congr_left hl
  have haA : ∀ (l : Array Operand), (∀ x ∈ l.toList, ρ x = ρ' x) → l.map ρ = l.map ρ' := fun l hl => by
    apply Array.ext'; simpa using ha l.toList hl
  have hmA : ∀ (l : Array (Nat × Operand)), (∀ x ∈ l.toList.map (·.2), ρ x = ρ' x) → l.map (fun (i, x) => (i, ρ x)) = l.map (fun (i, x) => (i, ρ' x)) := fun l hl => by
    apply Array.ext'; simpa using hm l.toList hl
  cases op <;> simp only [Op.operands, taken, Bool.false_eq_true] at h ht <;> try (simp only [execOp]; done)
  case move x => simp only [execOp]; rw [h x (by simp)]
  case assign x => simp only [execOp]; rw [h x (by simp)]
  case pick c a b => simp only [execOp]; rw [h c (by simp), h a (by simp), h b (by simp)]
  case box e x => simp only [execOp]; rw [h x (by simp)]
  case build t ps => simp only [execOp]; rw [hmA ps (by simpa using h)]
  case buildSlice t n ps => simp only [execOp]; rw [hmA ps (by simpa using h)]
  case insert t m k x => simp only [execOp]; rw [h m (by simp), h k (by simp), h x (by simp)]
  case load t x => simp only [execOp]; rw [h x (by simp)]
  case store t x y => simp only [execOp]; rw [h x (by simp), h y (by simp)]
  case nilCheck x => simp only [execOp]; rw [h x (by simp)]
  case binOp op t x y yt => simp only [execOp]; rw [h x (by simp), h y (by simp)]
  case unOp op t x => simp only [execOp]; rw [h x (by simp)]
  case convert s d x => simp only [execOp]; rw [h x (by simp)]
  case sliceToArrayPointer d x => simp only [execOp]; rw [h x (by simp)]
  case makeInterface t x => simp only [execOp]; rw [h x (by simp)]
  case makeFunc fn a b => simp only [execOp]; rw [haA a (fun x hx => h x (by simp; exact .inl (by simpa using hx))), haA b (fun x hx => h x (by simp; exact .inr (by simpa using hx)))]
  case makeMap t r =>
    simp only [execOp]
    cases r with
    | none => rfl
    | some r => simp only [Option.map_some]; rw [h r (by simp)]
  case makeChan t s => simp only [execOp]; rw [h s (by simp)]
  case makeSlice t l c => simp only [execOp]; rw [h l (by simp), h c (by simp)]
  case slice t x lo hi mx =>
    have h0 : ∀ (o : Option Operand), (∀ y, o = some y → ρ y = ρ' y) → o.map ρ = o.map ρ' := by
      intro o ho; cases o with
      | none => rfl
      | some y => simp [ho y rfl]
    simp only [execOp]
    rw [h x (by simp), h0 lo (fun y hy => h y (by subst hy; simp)), h0 hi (fun y hy => h y (by subst hy; simp)), h0 mx (fun y hy => h y (by subst hy; simp))]
  case fieldAddr t x f => simp only [execOp]; rw [h x (by simp)]
  case field t x f => simp only [execOp]; rw [h x (by simp)]
  case indexAddr t x i => simp only [execOp]; rw [h x (by simp), h i (by simp)]
  case index t x i => simp only [execOp]; rw [h x (by simp), h i (by simp)]
  case lookup t x i ok => simp only [execOp]; rw [h x (by simp), h i (by simp)]
  case mapUpdate t m k x => simp only [execOp]; rw [h m (by simp), h k (by simp), h x (by simp)]
  case mapEntry t m k => simp only [execOp]; rw [h m (by simp), h k (by simp)]
  case entryStore t m k x => simp only [execOp]; rw [h m (by simp), h k (by simp), h x (by simp)]
  case range t x => simp only [execOp]; rw [h x (by simp)]
  case next it s => simp only [execOp]; rw [h it (by simp)]
  case entry it => simp only [execOp]; rw [h it (by simp)]
  case typeAssert x a b c => simp only [execOp]; rw [h x (by simp)]
  case extract t i => simp only [execOp]; rw [h t (by simp)]
  case call c =>
    obtain ⟨callee, args, tys⟩ := c
    simp only [execOp, resolve, Call.operands] at *
    cases callee with
    | value f => simp only at *; rw [haA args (fun x hx => h x (by simp; exact .inr (by simpa using hx))), h f (by simp)]
    | invoke r m => simp only at *; rw [haA args (fun x hx => h x (by simp; exact .inr (by simpa using hx))), h r (by simp)]
    | builtin b => simp only at *; rw [haA args (fun x hx => h x (by simpa using hx))]
  case panic x => simp only [execOp]; rw [h x (by simp)]

def wantedE (e : Env) (ops : Array Oper) (o : Oper) : Option Bool :=
  match o.guard with
  | none => some true
  | some (j, want) =>
    match ops[j]? with
    | none => none
    | some oj =>
      match oj.dst with
      | none => none
      | some d =>
        match e.at d with
        | none => none
        | some (.bool b) => some (b == want)
        | some _ => some false

theorem wantedE_sound {N : Nat} {e : Env} {ops : Array Oper} {o : Oper} {a : Act} {b : Bool} (h : Sat N e a) (hw : wantedE e ops o = some b) : Region.wanted o (yielded ops a.tmps) = b := by
  unfold wantedE at hw
  unfold Region.wanted
  cases hg : o.guard with
  | none => rw [hg] at hw; simpa using hw
  | some p =>
    obtain ⟨j, want⟩ := p
    rw [hg] at hw
    simp only at hw ⊢
    cases hj : ops[j]? with
    | none => rw [hj] at hw; cases hw
    | some oj =>
      rw [hj] at hw
      simp only at hw
      cases hd : oj.dst with
      | none => rw [hd] at hw; cases hw
      | some d =>
        rw [hd] at hw
        simp only at hw
        cases he : e.at d with
        | none => rw [he] at hw; cases hw
        | some v =>
          rw [he] at hw
          have hs := h.slots d v he
          have hy : yielded ops a.tmps j = (match (some v : Option Value) with | some (.bool b) => some b | _ => none) := by
            unfold yielded
            rw [hj, Option.bind_some, hd, Option.bind_some, hs]
            cases v <;> rfl
          rw [hy]
          clear hy hs he
          cases v <;> simp at hw <;> subst hw <;> simp <;> (try (cases want <;> simp_all))

def dstOk (N : Nat) (o : Oper) : Bool := match o.dst with
  | none => true
  | some d => Nat.blt d N

theorem dstOk_sound {N : Nat} {o : Oper} (h : dstOk N o = true) : ∀ t, o.dst = some t → t < N := by
  intro t ht
  unfold dstOk at h
  rw [ht] at h
  exact Nat.le_of_ble_eq_true h

def seen (e : Env) (o : Oper) : Bool := o.op.operands.toList.all fun x => (e.get x).isSome

theorem exec_env {N : Nat} {e : Env} {a : Act} {o : Oper} (h : Sat N e a) (ht : taken o.op = true) (hs : seen e o = true) : execOp a.eval o = execOp e.ev o :=
  execOp_congr o _ _ ht fun x hx => h.ev (List.all_eq_true.1 hs x hx)

/-! ## A region, operation by operation -/
def EL (P : Program) (N : Nat) (e : Env) (ops : Array Oper) (i : Nat) (Q : Exit → Act → World → Prop) (w : World) : Prop :=
  ∀ a, Sat N e a → wpList P ops Q (ops.toList.drop i) a w

def quick (P : Program) (N : Nat) (ops : Array Oper) : List Oper → Env → Option Env
  | [], e => some e
  | o :: r, e => match wantedE e ops o with
    | none => none
    | some false => match dstOk N o with
      | false => none
      | true => quick P N ops r (e.put o.dst undef)
    | some true => match taken o.op && dstOk N o && seen e o with
      | false => none
      | true => match pureRun P (execOp e.ev o) with
        | some (.value v) => quick P N ops r (e.put o.dst v)
        | _ => none

theorem quick_sound {P : Program} {N : Nat} {ops : Array Oper} {Q : Exit → Act → World → Prop} {w : World} {rest : List Oper} :
    ∀ (l : List Oper) (e e' : Env), quick P N ops l e = some e' → (∀ a, Sat N e' a → wpList P ops Q rest a w) → ∀ a, Sat N e a → wpList P ops Q (l ++ rest) a w
  | [], e, e', h, hk, a, ha => by simp only [quick, Option.some.injEq] at h; subst h; exact hk a ha
  | o :: l, e, e', h, hk, a, ha => by
    simp only [quick] at h
    rw [List.cons_append]
    refine wpList_step fun K hK => ?_
    cases hw : wantedE e ops o with
    | none => rw [hw] at h; cases h
    | some b =>
      rw [hw] at h
      rw [wantedE_sound ha hw]
      cases b with
      | false =>
        simp only at h
        rw [if_neg (by simp)]
        cases hd : dstOk N o with
        | false => rw [hd] at h; cases h
        | true =>
          rw [hd] at h
          exact hK _ _ (quick_sound l _ e' h hk _ (ha.put (dstOk_sound hd)))
      | true =>
        simp only at h
        rw [if_pos rfl]
        cases hc : taken o.op && dstOk N o && seen e o with
        | false => rw [hc] at h; cases h
        | true =>
          rw [hc] at h
          simp only [Bool.and_eq_true] at hc
          simp only at h
          cases hp : pureRun P (execOp e.ev o) with
          | none => rw [hp] at h; cases h
          | some n =>
            rw [hp] at h
            cases n <;> try (cases h)
            case value v =>
              have hr := run_of_pureRun P _ _ hp w
              unfold Oper.wp
              rw [exec_env ha hc.1.1 hc.2, hr, Oper.upon_value]
              exact hK _ _ (quick_sound l _ e' h hk _ (ha.put (dstOk_sound hc.1.2)))

theorem EL.quick {P : Program} {N : Nat} {e : Env} {ops : Array Oper} {i : Nat} {Q : Exit → Act → World → Prop} {w : World} (n : Nat) (live : List Nat) (e' : Env)
    (h : (Fw.quick P N ops ((ops.toList.drop i).take n) e).bind (·.keep live) = some e') (hk : EL P N e' ops (i + n) Q w) : EL P N e ops i Q w := by
  intro a ha
  cases hq : Fw.quick P N ops ((ops.toList.drop i).take n) e with
  | none => rw [hq] at h; cases h
  | some e1 =>
    rw [hq] at h
    have := quick_sound (P := P) (Q := Q) (w := w) (rest := ops.toList.drop (i + n)) _ e e1 hq (fun a ha => hk a (ha.keep h)) a ha
    rwa [← List.drop_drop, List.take_append_drop] at this

def ready (N : Nat) (e : Env) (ops : Array Oper) (i : Nat) : Bool :=
  match ops[i]? with
  | none => false
  | some o => match wantedE e ops o with
    | some true => taken o.op && dstOk N o && seen e o
    | _ => false

def opSem (e : Env) (ops : Array Oper) (i : Nat) : Option (Sem Next) := (ops[i]?).map fun o => execOp e.ev o
def dstOf (ops : Array Oper) (i : Nat) : Option Tmp := (ops[i]?).bind (·.dst)

/-- operation i, and then K: a frame and a world -/
def EO (P : Program) (N : Nat) (e : Env) (ops : Array Oper) (i : Nat) (Q : Exit → Act → World → Prop) (K : Env → World → Prop) (w : World) : Prop :=
  ∀ a, Sat N e a → ∀ K' : Act → World → Prop, (∀ e' a' w', Sat N e' a' → K e' w' → K' a' w') → ∃ o, ops[i]? = some o ∧ Region.wanted o (yielded ops a.tmps) = true ∧ o.wp P a w K' Q

theorem EO.op {P : Program} {N : Nat} {e : Env} {ops : Array Oper} {i : Nat} {Q : Exit → Act → World → Prop} {K : Env → World → Prop} {w : World} (h1 : ready N e ops i = true) {s : Sem Next} (h2 : opSem e ops i = some s)
    (h : ∀ a K', Sat N e a → (∀ e' a' w', Sat N e' a' → K e' w' → K' a' w') → ∀ o, ops[i]? = some o → (∀ t, o.dst = some t → t < N) → o.upon P a K' Q (s.run P w)) : EO P N e ops i Q K w := by
  intro a ha K' hK
  unfold ready at h1
  cases ho : ops[i]? with
  | none => rw [ho] at h1; cases h1
  | some o =>
    rw [ho] at h1
    simp only at h1
    cases hw : wantedE e ops o with
    | none => rw [hw] at h1; cases h1
    | some b =>
      rw [hw] at h1
      cases b with
      | false => cases h1
      | true =>
        simp only [Bool.and_eq_true] at h1
        refine ⟨o, rfl, wantedE_sound ha hw, ?_⟩
        unfold Oper.wp
        rw [exec_env ha h1.1.1 h1.2]
        have hs : execOp e.ev o = s := by
          unfold opSem at h2
          rw [ho] at h2
          simpa using h2
        rw [hs]
        exact h a K' ha hK o ho (dstOk_sound h1.1.2)

/-- in the text's order -/
theorem EL.of {P : Program} {N : Nat} {e : Env} {ops : Array Oper} {i : Nat} {Q : Exit → Act → World → Prop} {w : World} (h : EO P N e ops i Q (fun e' w' => EL P N e' ops (i + 1) Q w') w) : EL P N e ops i Q w := by
  intro a ha
  obtain ⟨o, ho, hw, hx⟩ := h a ha (wpList P ops Q (ops.toList.drop (i + 1))) (fun e' a' w' ha' hk => hk a' ha')
  have hlt : i < ops.size := by
    rcases Nat.lt_or_ge i ops.size with h | h
    · exact h
    · rw [Array.getElem?_eq_none h] at ho; cases ho
  have hd : ops.toList.drop i = o :: ops.toList.drop (i + 1) := by
    rw [List.drop_eq_getElem_cons (by simpa using hlt)]
    congr 1
    have : ops[i] = o := by simpa [Array.getElem?_eq_getElem hlt] using ho
    simpa using this
  rw [hd]
  refine wpList_step fun K hK => ?_
  rw [if_pos hw]
  exact Oper.wp_mono hK hx

theorem EL.keep {P : Program} {N : Nat} {e : Env} {ops : Array Oper} {i : Nat} {Q : Exit → Act → World → Prop} {w : World} (live : List Nat) (e' : Env) (h : e.keep live = some e') (hk : EL P N e' ops i Q w) : EL P N e ops i Q w :=
  fun a ha => hk a (ha.keep h)

/-- a slot's value in another spelling -/
theorem EL.as {P : Program} {N : Nat} {e e' : Env} {ops : Array Oper} {i : Nat} {Q : Exit → Act → World → Prop} {w : World} (h : e = e') (hk : EL P N e' ops i Q w) : EL P N e ops i Q w := h ▸ hk

/-! ## Code -/
def EW (P : Program) (N : Nat) (e : Env) (c : Code) (Q : Exit → Act → World → Prop) (w : World) : Prop := ∀ a, Sat N e a → c.wp P Q a w
def EQ (N : Nat) (e : Env) (Q : Act → World → Prop) (w : World) : Prop := ∀ a, Sat N e a → Q a w

/-- what follows a piece of code, innermost first -/
inductive Kont where
  | code (y : Code)
  | to (I : Act → World → Prop)
  | block (id : Nat)

def KQ (P : Program) (Q0 : Exit → Act → World → Prop) : List Kont → Exit → Act → World → Prop
  | [] => Q0
  | .code y :: K => Exit.then (y.wp P (KQ P Q0 K)) (KQ P Q0 K)
  | .to I :: K => Exit.then I (KQ P Q0 K)
  | .block id :: K => Exit.inBlock id (KQ P Q0 K)

section
variable {P : Program} {N : Nat} {e : Env} {Q0 : Exit → Act → World → Prop} {K : List Kont} {w : World}

theorem EW.keep {Q : Exit → Act → World → Prop} {c : Code} (live : List Nat) (e' : Env) (h : e.keep live = some e') (hk : EW P N e' c Q w) : EW P N e c Q w := fun a ha => hk a (ha.keep h)

theorem EW.seq {c x y : Code} (hc : c = .seq x y) (h : EW P N e x (KQ P Q0 (.code y :: K)) w) : EW P N e c (KQ P Q0 K) w := by
  subst hc; exact fun a ha => wp_seq (h a ha)

/-- cut: what holds where the first part has ended normally -/
theorem EW.cut {c x y : Code} (I : Act → World → Prop) (hc : c = .seq x y) (h : EW P N e x (KQ P Q0 (.to I :: K)) w) (hk : ∀ a w, I a w → y.wp P (KQ P Q0 K) a w) : EW P N e c (KQ P Q0 K) w := by
  subst hc
  refine fun a ha => wp_seq (wp_mono (h a ha) fun ex a w hq => ?_)
  cases ex with
  | normal => exact hk a w hq
  | exit id => exact hq
  | goto l => exact hq
  | ret => exact hq
  | panic ch => exact hq
  | outgrown => exact hq

theorem EW.region {c : Code} {id : Nat} {ops : Array Oper} {Q : Exit → Act → World → Prop} (hc : c = .region id ops false) (h : EL P N e ops 0 Q w) : EW P N e c Q w := by
  subst hc
  refine fun a ha => wp_region_list (by simpa using h a ha)

theorem EW.block {c x : Code} {id : Nat} (hc : c = .block id x) (h : EW P N e x (KQ P Q0 (.block id :: K)) w) : EW P N e c (KQ P Q0 K) w := by
  subst hc; exact fun a ha => wp_block (h a ha)

theorem EW.cond {c x y : Code} {o : Operand} {Q : Exit → Act → World → Prop} {b : Bool} (hc : c = .cond o x y) (hb : e.get o = some (.bool b)) (ht : b = true → EW P N e x Q w) (hf : b = false → EW P N e y Q w) : EW P N e c Q w := by
  subst hc
  exact fun a ha => wp_cond_split (ha.eval hb) (fun h => ht h a ha) (fun h => hf h a ha)

theorem EW.condP {c x y : Code} {o : Operand} {Q : Exit → Act → World → Prop} (p : Prop) [Decidable p] (hc : c = .cond o x y) (hb : e.get o = some (.bool (decide p))) (ht : p → EW P N e x Q w) (hf : ¬ p → EW P N e y Q w) : EW P N e c Q w :=
  EW.cond hc hb (fun h => ht (of_decide_eq_true h)) (fun h => hf (of_decide_eq_false h))

theorem EW.skip {c : Code} (hc : c = .skip) (h : EQ N e (KQ P Q0 K .normal) w) : EW P N e c (KQ P Q0 K) w := by
  subst hc; exact fun a ha => wp_skip (h a ha)

theorem EW.exit {c : Code} {id : Nat} (hc : c = .exit id) (h : EQ N e (KQ P Q0 K (.exit id)) w) : EW P N e c (KQ P Q0 K) w := by
  subst hc; exact fun a ha => wp_exit (h a ha)

theorem EW.ret {c : Code} (hc : c = .ret) (h : EQ N e (KQ P Q0 K .ret) w) : EW P N e c (KQ P Q0 K) w := by
  subst hc; exact fun a ha => wp_ret (h a ha)

theorem EL.done {ops : Array Oper} {i : Nat} (hi : Nat.beq i ops.size = true) (h : EQ N e (KQ P Q0 K .normal) w) : EL P N e ops i (KQ P Q0 K) w := by
  intro a ha
  have : i = ops.size := Nat.eq_of_beq_eq_true hi
  subst this
  have : ops.toList.drop ops.size = [] := by simp
  rw [this]
  exact h a ha

/-- the end of a piece: on to what follows -/
theorem EQ.code {y : Code} (h : EW P N e y (KQ P Q0 K) w) : EQ N e (KQ P Q0 (.code y :: K) .normal) w := h
theorem EQ.to {I : Act → World → Prop} (h : EQ N e I w) : EQ N e (KQ P Q0 (.to I :: K) .normal) w := h
theorem EQ.pop {id : Nat} (h : EQ N e (KQ P Q0 K .normal) w) : EQ N e (KQ P Q0 (.block id :: K) .normal) w := h
theorem EQ.exitHere {id : Nat} (h : EQ N e (KQ P Q0 K .normal) w) : EQ N e (KQ P Q0 (.block id :: K) (.exit id)) w := fun a ha => by
  show (if id = id then KQ P Q0 K .normal a w else _)
  rw [if_pos rfl]; exact h a ha
theorem EQ.exitPast {id id' : Nat} (hne : Nat.beq id id' = false) (h : EQ N e (KQ P Q0 K (.exit id)) w) : EQ N e (KQ P Q0 (.block id' :: K) (.exit id)) w := fun a ha => by
  show (if id = id' then _ else KQ P Q0 K (.exit id) a w)
  rw [if_neg (fun h => by subst h; rw [Nat.beq_refl] at hne; cases hne)]; exact h a ha
theorem EQ.exitCode {id : Nat} {y : Code} (h : EQ N e (KQ P Q0 K (.exit id)) w) : EQ N e (KQ P Q0 (.code y :: K) (.exit id)) w := h
theorem EQ.exitTo {id : Nat} {I : Act → World → Prop} (h : EQ N e (KQ P Q0 K (.exit id)) w) : EQ N e (KQ P Q0 (.to I :: K) (.exit id)) w := h
theorem EQ.ret {h0 : Kont} (h : EQ N e (KQ P Q0 K .ret) w) : EQ N e (KQ P Q0 (h0 :: K) .ret) w := by
  cases h0 <;> exact h
theorem EQ.keep {Q : Act → World → Prop} (live : List Nat) (e' : Env) (h : e.keep live = some e') (hk : EQ N e' Q w) : EQ N e Q w := fun a ha => hk a (ha.keep h)

/-- a loop: a relation that bears the rounds that are left -/
theorem EW.loop {c x : Code} (I : Nat → Act → World → Prop) (k0 : Nat) (hc : c = .loop x) (h0 : EQ N e (I k0) w)
    (round : ∀ k a w, I k a w → x.wp P (KQ P Q0 (.to (fun a w => ∃ k', k' < k ∧ I k' a w) :: K)) a w) : EW P N e c (KQ P Q0 K) w := by
  subst hc
  exact fun a ha => wp_loop_ghost I k0 (h0 a ha) round
end

/-! ## A function -/
def Env.args (vs : List Value) : Env := vs.zipIdx.map fun (v, i) => (i, v)

def argsEnv : Nat → List Value → Env
  | _, [] => []
  | i, v :: r => (i, v) :: argsEnv (i + 1) r

theorem argsEnv_at : ∀ (l : List Value) (i t : Nat) (v : Value), (argsEnv i l).at t = some v → i ≤ t ∧ l[t - i]? = some v
  | [], _, _, _, h => by cases h
  | u :: l, i, t, v, h => by
    simp only [argsEnv] at h
    rw [at_cons] at h
    by_cases hit : i = t
    · subst hit; rw [if_pos rfl] at h; simpa using h
    · rw [if_neg hit] at h
      obtain ⟨h1, h2⟩ := argsEnv_at l (i + 1) t v h
      refine ⟨by omega, ?_⟩
      have : t - i = (t - (i + 1)) + 1 := by omega
      rw [this]; simpa using h2

theorem calls_of_EW {P : Program} {f : FuncId} {fn : Func} {c : Code} {args : List Value} {w : World} {R : Ending → World → Prop} (N : Nat)
    (hf : P.funcs[f]? = some fn) (hb : fn.body = some c) (hN : fn.ntmps = N) (hlen : Nat.ble args.length N = true)
    (h : EW P N (argsEnv 0 args) c (KQ P (bodyPost P fn R) []) w) : Calls P f args.toArray w R := by
  refine calls_of_wp hf hb (h _ ⟨rfl, ?_, ?_⟩)
  · have := Nat.le_of_ble_eq_true hlen
    simp [hN]; omega
  · intro t v ht
    obtain ⟨_, h2⟩ := argsEnv_at args 0 t v ht
    have hlt : t < args.length := (List.getElem?_eq_some_iff.1 (by simpa using h2)).1
    simp only [Array.getElem?_append, List.size_toArray, if_pos hlt]
    simpa using h2

/-- the results, read off the frame -/
def resultsE (e : Env) (rs : Array ResultVar) : Option Value :=
  match rs.toList with
  | [] => some (.tuple #[])
  | [.tmp t] => e.at t
  | [.tmp t, .tmp u] => match e.at t, e.at u with
    | some x, some y => some (.tuple #[x, y])
    | _, _ => none
  | [.tmp t, .tmp u, .tmp s] => match e.at t, e.at u, e.at s with
    | some x, some y, some z => some (.tuple #[x, y, z])
    | _, _, _ => none
  | _ => none

theorem getD_of_some {l : Array Value} {t : Nat} {v : Value} (h : l[t]? = some v) : l.getD t undef = v := by simp [h]

theorem resultsE_sound {P : Program} {fn : Func} {N : Nat} {e : Env} {a : Act} {v : Value} {w : World} (h : Sat N e a) (hr : resultsE e fn.results = some v) : (results fn a.tmps).run P w = .ok v w := by
  unfold resultsE at hr
  have hrs : fn.results = fn.results.toList.toArray := by simp
  split at hr
  · rename_i he
    rw [he] at hrs
    simp only [Option.some.injEq] at hr
    subst hr
    exact results_none hrs _ _ _
  · rename_i t he
    rw [he] at hrs
    rw [results_tmp hrs, getD_of_some (h.slots _ _ hr)]
  · rename_i t u he
    rw [he] at hrs
    cases h1 : e.at t with
    | none => rw [h1] at hr; cases hr
    | some x =>
      cases h2 : e.at u with
      | none => rw [h1, h2] at hr; cases hr
      | some y =>
        rw [h1, h2] at hr
        simp only [Option.some.injEq] at hr
        subst hr
        rw [results_tmp2 hrs, getD_of_some (h.slots _ _ h1), getD_of_some (h.slots _ _ h2)]
  · rename_i t u s he
    rw [he] at hrs
    cases h1 : e.at t with
    | none => rw [h1] at hr; cases hr
    | some x =>
      cases h2 : e.at u with
      | none => rw [h1, h2] at hr; cases hr
      | some y =>
        cases h3 : e.at s with
        | none => rw [h1, h2, h3] at hr; cases hr
        | some z =>
          rw [h1, h2, h3] at hr
          simp only [Option.some.injEq] at hr
          subst hr
          have : (results fn a.tmps).run P w = .ok (.tuple #[a.tmps.getD t undef, a.tmps.getD u undef, a.tmps.getD s undef]) w := by
            simp [results, hrs]
          rw [this, getD_of_some (h.slots _ _ h1), getD_of_some (h.slots _ _ h2), getD_of_some (h.slots _ _ h3)]
  · cases hr

theorem EQ.leave {P : Program} {fn : Func} {R : Ending → World → Prop} {N : Nat} {e : Env} {w : World} (v : Value) (hr : resultsE e fn.results = some v) (hR : R (.returned v) w) : EQ N e (KQ P (bodyPost P fn R) [] .ret) w :=
  fun a ha => ⟨ha.defers, v, resultsE_sound ha hr, hR⟩
theorem EQ.leaveN {P : Program} {fn : Func} {R : Ending → World → Prop} {N : Nat} {e : Env} {w : World} (v : Value) (hr : resultsE e fn.results = some v) (hR : R (.returned v) w) : EQ N e (KQ P (bodyPost P fn R) [] .normal) w :=
  fun a ha => ⟨ha.defers, v, resultsE_sound ha hr, hR⟩

/-! ## Codes by their place -/
def _root_.Go.Code.l : Code → Code | .seq x _ => x | .cond _ x _ => x | .block _ x => x | .loop x => x | c => c
def _root_.Go.Code.r : Code → Code | .seq _ y => y | .cond _ _ y => y | c => c
def _root_.Go.Code.ops : Code → Array Oper | .region _ o _ => o | _ => #[]
def bodyOf (f : Func) : Code := match f.body with | some c => c | none => .skip
end Go.Fw
