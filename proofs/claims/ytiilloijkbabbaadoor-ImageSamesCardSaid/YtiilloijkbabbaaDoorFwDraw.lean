import Derived.Test.YtiilloijkbabbaaDoorFwMore
import Derived.OrdersHeld
import Derived.Deep.RegionHeld3
/-!
  Regions that draw their order. What only reckons, and what only reads parts that the region leaves alone, is taken first; the others are taken as they come up.
-/
set_option linter.unusedVariables false
set_option linter.unusedSimpArgs false
namespace Go.Fw
open Go Go.RowKit

/-- the parts that the region leaves alone are there -/
def Core (B : World) (co : List Ass) (cr : List Ro) (w : World) : Prop := ∃ os rs, St B w (co ++ os) (cr ++ rs)
theorem Core.again {B : World} {co : List Ass} {cr : List Ro} {w w' : World} (_ : Core B co cr w) (h : ∃ os rs, St B w' (co ++ os) (cr ++ rs)) : Core B co cr w' := h

/-- whatever order is drawn from here on. Bs: the parts that the region leaves alone; n: how many are to come -/
def ED (P : Program) (N : Nat) (B : World) (co : List Ass) (cr : List Ro) (e : Env) (ops : Array Oper) (listed : Array Bool) (n : Nat) (Q : Exit → Act → World → Prop) (w : World) : Prop :=
  ∀ a, Sat N e a → wpAnyH P .any ops (NoPanic Q) (Core B co cr) n listed a w

def waitsOn (o : Oper) (i : Nat) : Bool := o.after.toList.any fun e => Region.binds .any e && Nat.beq e.on i
def memT (d : Tmp) : List Tmp → Bool
  | [] => false
  | t :: r => match Nat.beq d t with
    | true => true
    | false => memT d r
def apartB (ops : Array Oper) (x y : Oper) : Bool :=
  (match x.dst with
   | some d => !(memT d (y.looksAt ops)) && (match y.dst with | some d' => !(Nat.beq d' d) | none => true)
   | none => true) &&
  (match y.dst with
   | some d => !(memT d (x.looksAt ops))
   | none => true)
/-- any two operations: one waits for the other, or they are apart -/
def freeAll (ops : Array Oper) : Bool := (List.range ops.size).all fun i => (List.range ops.size).all fun j => match Nat.beq i j with
  | true => true
  | false => match ops[i]?, ops[j]? with
    | some oi, some oj => waitsOn oj i || waitsOn oi j || apartB ops oi oj
    | _, _ => true

theorem memT_spec {d : Tmp} : ∀ {l : List Tmp}, memT d l = false → d ∉ l
  | [], _ => by simp
  | t :: r, h => by
    simp only [memT] at h
    cases hb : Nat.beq d t with
    | true => rw [hb] at h; cases h
    | false =>
      rw [hb] at h
      have := memT_spec h
      have hne : d ≠ t := Nat.ne_of_beq_eq_false hb
      simp [hne, this]

theorem apartB_spec {ops : Array Oper} {x y : Oper} (h : apartB ops x y = true) : x.apart ops y = true := by
  unfold apartB at h
  unfold Oper.apart
  cases hx : x.dst <;> cases hy : y.dst <;> simp only [hx, hy, Bool.and_eq_true, Bool.not_eq_true', Bool.true_and, Bool.and_true, and_true, true_and] at h ⊢
  · simpa using memT_spec h
  · simpa using memT_spec h
  · obtain ⟨⟨h1, h2⟩, h3⟩ := h
    refine ⟨⟨by simpa using memT_spec h1, ?_⟩, by simpa using memT_spec h3⟩
    have := Nat.ne_of_beq_eq_false h2
    simpa using this

theorem freeAll_spec {ops : Array Oper} (h : freeAll ops = true) {listed : Array Bool} {i : Nat} {oi : Oper} (hi : ops[i]? = some oi) (hr : i ∈ Region.ready .any ops listed) :
    ∀ j oj, ops[j]? = some oj → j ≠ i → listed.getD j true = false → (∀ e ∈ oj.after, Region.binds .any e = true → e.on ≠ i) → oi.apart ops oj = true := by
  intro j oj hj hne hun hno
  unfold freeAll at h
  have hl : ∀ {k : Nat} {o : Oper}, ops[k]? = some o → k < ops.size := fun hk => (Array.getElem?_eq_some_iff.1 hk).1
  have h1 := List.all_eq_true.1 (List.all_eq_true.1 h i (List.mem_range.2 (hl hi))) j (List.mem_range.2 (hl hj))
  cases hb : Nat.beq i j with
  | true => exact absurd (Nat.eq_of_beq_eq_true hb).symm hne
  | false =>
    rw [hb] at h1
    simp only [hi, hj, Bool.or_eq_true] at h1
    rcases h1 with (h1 | h1) | h1
    · exfalso
      unfold waitsOn at h1
      obtain ⟨x, hx, hxx⟩ := List.any_eq_true.1 h1
      simp only [Bool.and_eq_true] at hxx
      exact hno x (by simpa using hx) hxx.1 (Nat.eq_of_beq_eq_true hxx.2)
    · exfalso
      unfold waitsOn at h1
      obtain ⟨x, hx, hxx⟩ := List.any_eq_true.1 h1
      simp only [Bool.and_eq_true] at hxx
      have hon := Nat.eq_of_beq_eq_true hxx.2
      obtain ⟨_, o, ho, hall⟩ := mem_ready.1 hr
      rw [hi] at ho
      injection ho with ho
      subst ho
      have := hall x (by simpa using hx) hxx.1
      rw [hon] at this
      have hj' : listed.getD j true = false := hun
      rcases Nat.lt_or_ge j listed.size with h' | h'
      · simp [h'] at this hj'; rw [this] at hj'; cases hj'
      · simp [Array.getElem?_eq_none h'] at hj'
    · exact apartB_spec h1

/-- it may come up now -/
def up (ops : Array Oper) (listed : Array Bool) (i : Nat) : Bool := match listed.getD i true with
  | true => false
  | false => match ops[i]? with
    | none => false
    | some o => o.after.toList.all fun e => match Region.binds .any e with
      | false => true
      | true => listed.getD e.on false

theorem up_spec {ops : Array Oper} {listed : Array Bool} {i : Nat} (h : up ops listed i = true) : i ∈ Region.ready .any ops listed := by
  unfold up at h
  rw [mem_ready]
  cases h1 : listed.getD i true with
  | true => rw [h1] at h; cases h
  | false =>
    rw [h1] at h
    simp only at h
    cases h2 : ops[i]? with
    | none => rw [h2] at h; cases h
    | some o =>
      rw [h2] at h
      simp only at h
      refine ⟨rfl, o, rfl, fun x hx hb => ?_⟩
      have := List.all_eq_true.1 h x (by simpa using hx)
      rw [hb] at this
      exact this

/-- those that may come up now -/
def ups (ops : Array Oper) (listed : Array Bool) : List Nat := (List.range ops.size).filter (up ops listed)

theorem mem_ups {ops : Array Oper} {listed : Array Bool} {i : Nat} (h : i ∈ Region.ready .any ops listed) : i ∈ ups ops listed := by
  unfold ups
  have h' := h
  rw [mem_ready] at h
  obtain ⟨h0, o, ho, hall⟩ := h
  rw [List.mem_filter, List.mem_range]
  refine ⟨(Array.getElem?_eq_some_iff.1 ho).1, ?_⟩
  unfold up
  rw [h0, ho]
  simp only
  refine List.all_eq_true.2 fun x hx => ?_
  cases hb : Region.binds .any x with
  | false => rfl
  | true => exact hall x (by simpa using hx) hb

section
variable {P : Program} {N : Nat} {B : World} {co : List Ass} {cr : List Ro} {e : Env} {ops : Array Oper} {listed : Array Bool} {n : Nat} {Q : Exit → Act → World → Prop} {w : World}

theorem ED.first {i : Nat} {oi : Oper} {v : Value} (hi : ops[i]? = some oi) (hs : Region.noSelect ops = true) (hf : freeAll ops = true) (hr : up ops listed i = true) (hdt : ∀ t, oi.dst = some t → t < N)
    (hy : ∀ a, Sat N e a → YieldsIf P ops (Core B co cr) oi v a) (hC : Core B co cr w) (hk : ED P N B co cr (e.put oi.dst v) ops (listed.setIfInBounds i true) n Q w) : ED P N B co cr e ops listed (n + 1) Q w := by
  intro a ha
  exact wpAnyH_first hi (Region.noSelect_spec hs) (fun c a w h => h.elim) n listed a w (freeAll_spec hf hi (up_spec hr)) (up_spec hr) (hy a ha) hC (hk _ (ha.put hdt))

/-- several that only reckon, by the kernel -/
def quickD (P : Program) (N : Nat) (ops : Array Oper) : List Nat → Env → Array Bool → Option (Env × Array Bool)
  | [], e, l => some (e, l)
  | i :: r, e, l => match up ops l i with
    | false => none
    | true => match ops[i]? with
      | none => none
      | some o => match wantedE e ops o with
        | none => none
        | some false => match dstOk N o with
          | false => none
          | true => quickD P N ops r (e.put o.dst undef) (l.setIfInBounds i true)
        | some true => match taken o.op && dstOk N o && seen e o with
          | false => none
          | true => match pureRun P (execOp e.ev o) with
            | some (.value v) => quickD P N ops r (e.put o.dst v) (l.setIfInBounds i true)
            | _ => none

theorem quickD_sound (hs : Region.noSelect ops = true) (hf : freeAll ops = true) (hC : Core B co cr w) : ∀ (is : List Nat) (n : Nat) (e e' : Env) (l l' : Array Bool), quickD P N ops is e l = some (e', l') → ED P N B co cr e' ops l' n Q w → ED P N B co cr e ops l (n + is.length) Q w
  | [], n, e, e', l, l', h, hk => by simp only [quickD, Option.some.injEq, Prod.mk.injEq] at h; obtain ⟨rfl, rfl⟩ := h; exact hk
  | i :: r, n, e, e', l, l', h, hk => by
    simp only [quickD] at h
    cases hu : up ops l i with
    | false => rw [hu] at h; cases h
    | true =>
      rw [hu] at h
      cases ho : ops[i]? with
      | none => rw [ho] at h; cases h
      | some o =>
        rw [ho] at h
        simp only at h
        cases hw : wantedE e ops o with
        | none => rw [hw] at h; cases h
        | some b =>
          rw [hw] at h
          cases b with
          | false =>
            simp only at h
            cases hd : dstOk N o with
            | false => rw [hd] at h; cases h
            | true =>
              rw [hd] at h
              exact ED.first ho hs hf hu (dstOk_sound hd) (fun a ha => .inr ⟨wantedE_sound ha hw, rfl⟩) hC (quickD_sound hs hf hC r n _ _ _ _ h hk)
          | true =>
            simp only at h
            cases hc : taken o.op && dstOk N o && seen e o with
            | false => rw [hc] at h; cases h
            | true =>
              rw [hc] at h
              simp only [Bool.and_eq_true] at hc
              simp only at h
              cases hp : pureRun P (execOp e.ev o) with
              | none => rw [hp] at h; cases h
              | some nx =>
                rw [hp] at h
                cases nx <;> try (cases h)
                case value v =>
                  exact ED.first ho hs hf hu (dstOk_sound hc.1.2) (fun a ha => .inl ⟨wantedE_sound ha hw, fun w' _ => by rw [exec_env ha hc.1.1 hc.2]; exact run_of_pureRun P _ _ hp w'⟩) hC (quickD_sound hs hf hC r n _ _ _ _ h hk)

theorem ED.quick (hs : Region.noSelect ops = true) (hf : freeAll ops = true) (hC : Core B co cr w) (is : List Nat) (live : List Nat) (m : Nat) (e' : Env) (l' : Array Bool) (hm : n = m + is.length)
    (h : ((quickD P N ops is e listed).bind fun r => (r.1.keep live).map fun e' => (e', r.2)) = some (e', l')) (hk : ED P N B co cr e' ops l' m Q w) : ED P N B co cr e ops listed n Q w := by
  subst hm
  cases hq : quickD P N ops is e listed with
  | none => rw [hq] at h; cases h
  | some r =>
    rw [hq] at h
    simp only [Option.bind_some] at h
    cases hkp : r.1.keep live with
    | none => rw [hkp] at h; cases h
    | some e1 =>
      rw [hkp] at h
      simp only [Option.map_some, Option.some.injEq, Prod.mk.injEq] at h
      obtain ⟨rfl, rfl⟩ := h
      exact quickD_sound hs hf hC is m e r.1 listed r.2 hq fun a ha => hk a (ha.keep hkp)

/-- one that only reads what the region leaves alone -/
theorem ED.Y (hs : Region.noSelect ops = true) (hf : freeAll ops = true) (hC : Core B co cr w) (i m : Nat) {d : Nat} {v : Value} (l' : Array Bool) (hr : up ops listed i = true) (hl : listed.setIfInBounds i true = l') (hm : n = m + 1)
    (h : ∀ os rs w, St B w (co ++ os) (cr ++ rs) → YO P N e ops i d v w) (hk : ED P N B co cr ((d, v) :: e) ops l' m Q w) : ED P N B co cr e ops listed n Q w := by
  subst hm hl
  obtain ⟨os, rs, hS⟩ := hC
  have h0 := h os rs w hS
  obtain ⟨o, ho⟩ : ∃ o, ops[i]? = some o := by
    have h1 := h0.dst
    unfold dstOf at h1
    cases ho : ops[i]? with
    | none => rw [ho] at h1; cases h1
    | some o => exact ⟨o, rfl⟩
  have hd : o.dst = some d := by have h1 := h0.dst; unfold dstOf at h1; rw [ho] at h1; exact h1
  have hrd := h0.rdy
  unfold ready at hrd
  rw [ho] at hrd
  simp only at hrd
  cases hw : wantedE e ops o with
  | none => rw [hw] at hrd; cases hrd
  | some b =>
    rw [hw] at hrd
    cases b with
    | false => cases hrd
    | true =>
      simp only [Bool.and_eq_true] at hrd
      refine ED.first ho hs hf hr (dstOk_sound hrd.1.2) (v := v) (fun a ha => .inl ⟨wantedE_sound ha hw, fun w' hC' => ?_⟩) ⟨os, rs, hS⟩ (by rw [hd]; exact hk)
      obtain ⟨os', rs', hS'⟩ := hC'
      obtain ⟨S, h2, h3⟩ := (h os' rs' w' hS').sem
      rw [exec_env ha hrd.1.1 hrd.2]
      unfold opSem at h2
      rw [ho] at h2
      simp only [Option.map_some, Option.some.injEq] at h2
      rw [h2, Sem.run_bind' P S _ w', h3]
      rfl

/-- what is to be shown of each that may come up -/
def Each (P : Program) (N : Nat) (B : World) (co : List Ass) (cr : List Ro) (e : Env) (ops : Array Oper) (listed : Array Bool) (n : Nat) (Q : Exit → Act → World → Prop) (w : World) : List Nat → Prop
  | [] => True
  | i :: r => EO P N e ops i (NoPanic Q) (fun e' w' => Core B co cr w' ∧ ED P N B co cr e' ops (listed.setIfInBounds i true) n Q w') w ∧ Each P N B co cr e ops listed n Q w r

theorem Each.get : ∀ {l : List Nat} {i : Nat}, Each P N B co cr e ops listed n Q w l → i ∈ l → EO P N e ops i (NoPanic Q) (fun e' w' => Core B co cr w' ∧ ED P N B co cr e' ops (listed.setIfInBounds i true) n Q w') w
  | j :: r, i, h, hi => by
    rcases List.mem_cons.1 hi with rfl | hi
    · exact h.1
    · exact h.2.get hi

/-- whichever comes up -/
theorem ED.all (l : List Nat) (m : Nat) (hm : n = m + 1) (hl : ups ops listed = l) (hne : Region.ready .any ops listed ≠ []) (h : Each P N B co cr e ops listed m Q w l) : ED P N B co cr e ops listed n Q w := by
  subst hm
  refine fun a ha => ⟨fun h0 => absurd h0 hne, fun i hi => ?_⟩
  have h1 := h.get (by rw [← hl]; exact mem_ups hi)
  obtain ⟨o, ho, hw, hx⟩ := h1 a ha (fun a' w' => Core B co cr w' ∧ wpAnyH P .any ops (NoPanic Q) (Core B co cr) m (listed.setIfInBounds i true) a' w') (fun e' a' w' ha' hk => ⟨hk.1, hk.2 a' ha'⟩)
  unfold wpOp
  rw [ho]
  simp only [hw, if_true]
  exact .inl hx

/-- the only one -/
theorem ED.one (i m : Nat) (l' : Array Bool) (hm : n = m + 1) (hr : ups ops listed = [i]) (hl : listed.setIfInBounds i true = l')
    (h : EO P N e ops i (NoPanic Q) (fun e' w' => Core B co cr w' ∧ ED P N B co cr e' ops l' m Q w') w) : ED P N B co cr e ops listed n Q w := by
  subst hl
  refine ED.all [i] m hm hr ?_ ⟨h, trivial⟩
  intro h0
  have : i ∈ ups ops listed := by rw [hr]; simp
  unfold ups at this
  have := up_spec (List.mem_filter.1 this).2
  rw [h0] at this
  cases this

theorem ED.two (i j m : Nat) (hm : n = m + 1) (hr : ups ops listed = [i, j])
    (h : EO P N e ops i (NoPanic Q) (fun e' w' => Core B co cr w' ∧ ED P N B co cr e' ops (listed.setIfInBounds i true) m Q w') w)
    (h' : EO P N e ops j (NoPanic Q) (fun e' w' => Core B co cr w' ∧ ED P N B co cr e' ops (listed.setIfInBounds j true) m Q w') w) : ED P N B co cr e ops listed n Q w := by
  refine ED.all [i, j] m hm hr ?_ ⟨h, h', trivial⟩
  intro h0
  have : i ∈ ups ops listed := by rw [hr]; simp
  unfold ups at this
  have := up_spec (List.mem_filter.1 this).2
  rw [h0] at this
  cases this

theorem Each.nil : Each P N B co cr e ops listed n Q w [] := trivial
theorem Each.cons {i : Nat} {r : List Nat} (h : EO P N e ops i (NoPanic Q) (fun e' w' => Core B co cr w' ∧ ED P N B co cr e' ops (listed.setIfInBounds i true) n Q w') w) (hr : Each P N B co cr e ops listed n Q w r) : Each P N B co cr e ops listed n Q w (i :: r) := ⟨h, hr⟩
theorem ED.many (i : Nat) (l : List Nat) (m : Nat) (hm : n = m + 1) (hr : ups ops listed = i :: l) (h : Each P N B co cr e ops listed m Q w (i :: l)) : ED P N B co cr e ops listed n Q w := by
  refine ED.all (i :: l) m hm hr ?_ h
  intro h0
  have : i ∈ ups ops listed := by rw [hr]; simp
  unfold ups at this
  have := up_spec (List.mem_filter.1 this).2
  rw [h0] at this
  cases this

theorem ED.keep (live : List Nat) (e' : Env) (h : e.keep live = some e') (hk : ED P N B co cr e' ops listed n Q w) : ED P N B co cr e ops listed n Q w := fun a ha => hk a (ha.keep h)
theorem ED.as' (e' : Env) (h : e = e') (hk : ED P N B co cr e' ops listed n Q w) : ED P N B co cr e ops listed n Q w := h ▸ hk
theorem ED.at' (l' : Array Bool) (h : listed = l') (hk : ED P N B co cr e ops l' n Q w) : ED P N B co cr e ops listed n Q w := h ▸ hk

theorem ED.done {Q0 : Exit → Act → World → Prop} {K : List Kont} (hr : ups ops listed = []) (h : EQ N e (KQ P Q0 K .normal) w) : ED P N B co cr e ops listed n (KQ P Q0 K) w := by
  refine fun a ha => wpAnyH_done ?_ (NoPanic.normal (h a ha)) n
  cases hl : Region.ready .any ops listed with
  | nil => rfl
  | cons i r =>
    have := mem_ups (show i ∈ Region.ready .any ops listed by rw [hl]; simp)
    rw [hr] at this
    cases this

theorem EW.draw {Q0 : Exit → Act → World → Prop} {K : List Kont} {c : Code} {id : Nat} (co : List Ass) (cr : List Ro) (hc : c = .region id ops true) (hm : P.follows .mixedOrders = true)
    (h : ED P N B co cr e ops (Array.replicate ops.size false) ops.size (KQ P Q0 K) w.drew) : EW P N e c (KQ P Q0 K) w := by
  subst hc
  exact fun a ha => wp_region_noPanic (wp_region_held hm (h a ha))

theorem EQ.at {Q : Act → World → Prop} (h : EQ N e Q w) (a : Act) (ha : Sat N e a) : Q a w := h a ha

/-- several orders meet behind the region -/
theorem EW.meet {Q0 : Exit → Act → World → Prop} {K : List Kont} {c : Code} {id : Nat} (I : Act → World → Prop) (hc : c = .region id ops true) (h : EW P N e c (KQ P Q0 (.to I :: K)) w) (hk : ∀ a w, I a w → KQ P Q0 K .normal a w) : EW P N e c (KQ P Q0 K) w := by
  refine fun a ha => wp_mono (h a ha) fun ex a w hq => ?_
  cases ex with
  | normal => exact hk a w hq
  | exit id => exact hq
  | goto l => exact hq
  | ret => exact hq
  | panic ch => exact hq
  | outgrown => exact hq
end
end Go.Fw
