import Derived.Test.YtiilloijkbabbaaDoorFwSl
/-! append, make, slice literals. -/
set_option linter.unusedVariables false
set_option linter.unusedSimpArgs false
namespace Go.Fw
open Go Go.RowKit

/-- what a source of an append holds -/
def Src (w : World) (A : Option Addr) (m : Nat) (news : List Value) : Prop :=
  (A = none ∧ m = 0 ∧ news = []) ∨ ∃ ad, A = some ad ∧ ∀ j u, news[j]? = some u → w.cell? (ad.add j) = some u

section
variable {P : Program} {w : World}

theorem run_append_room_at (t ty e : TypeId) (i : TypeInfo) (ht : P.underlying t = some (.slice e)) (hi : P.info? e = some i)
    (g off sLen sCap : Nat) (cur : Array Value) (hg : w.heap[g]? = some (.cells cur e (0, 0)))
    (a : Addr) (m c : Nat) (news : List Value) (hl : news.length = m * i.size) (hnews : ∀ j u, news[j]? = some u → w.cell? (a.add j) = some u) (h1 : ∀ u ∈ news, u.oneCell' = true)
    (hroom : sLen + m ≤ sCap) (hfit : off + sLen * i.size + news.length ≤ cur.size) :
    (Builtin.append_ #[t, t] ty #[.slice (some ⟨g, off, none⟩) sLen sCap, .slice (some a) m c]).run P w =
      .ok (.slice (some ⟨g, off, none⟩) (sLen + m) sCap) (w.setRow g (cur.toList.take (off + sLen * i.size) ++ news ++ cur.toList.drop (off + sLen * i.size + news.length)).toArray) := by
  have hf := run_firstCells_some (P := P) w i.size m a m c news hl hnews
  have hst := run_storeCells_at P g (off + sLen * i.size) e news 0 cur w hg (by simpa using hfit) h1
  simp only [Nat.add_zero] at hst
  simp [Builtin.append_, run_underlying ht, sizeOf, typeInfo, hi, Builtin.lenOf, hroom, hf, addr_add_none, hst]

theorem run_append_none (t ty e : TypeId) (i : TypeInfo) (ht : P.underlying t = some (.slice e)) (hi : P.info? e = some i) (A : Option Addr) (n C c : Nat) (h : n ≤ C) :
    (Builtin.append_ #[t, t] ty #[.slice A n C, .slice none 0 c]).run P w = .ok (.slice A n C) w := by
  cases A <;> simp [Builtin.append_, run_underlying ht, sizeOf, typeInfo, hi, Builtin.lenOf, h, Builtin.firstCells, storeCells]

theorem run_append_row (t ty e : TypeId) (i : TypeInfo) (z : Value) (ht : P.underlying t = some (.slice e)) (hi : P.info? e = some i) (hz : i.zero = some z) (hzs : z.cells.size = i.size) (hsz : 0 < i.size) (hby : 0 < i.bytes)
    (A : Option Addr) (n C : Nat) (cs : List Value) (hrow : Row w e i.size (.slice A n C) n cs)
    (A2 : Option Addr) (m C2 : Nat) (news : List Value) (hl : news.length = m * i.size) (hsrc : Src w A2 m news) (h1 : ∀ u ∈ news, u.oneCell' = true) (hlim : (n + m) * i.bytes ≤ 140737488355328) :
    ∃ A' C' w', (Builtin.append_ #[t, t] ty #[.slice A n C, .slice A2 m C2]).run P w = .ok (.slice A' (n + m) C') w' ∧ Row w' e i.size (.slice A' (n + m) C') (n + m) (cs ++ news) ∧ w.grownBy w' (Value.slice A n C).ownBlock ∧
      ∀ k, (Value.slice A' (n + m) C').ownBlock = some k → ((Value.slice A n C).ownBlock = some k ∨ w.heap.size ≤ k) ∧ k < w'.heap.size := by
  have hlim' : n + m ≤ 140737488355328 := Nat.le_trans (Nat.le_mul_of_pos_right _ hby) hlim
  have h63 : n + m ≤ maxLen := by unfold maxLen; omega
  have hlen : (cs ++ news).length = (n + m) * i.size := by rw [List.length_append, hrow.1, hl, Nat.add_mul]
  have same : (∀ k, (Value.slice A n C).ownBlock = some k → k < w.heap.size) := by
    intro k hk
    rcases hrow.2 with ⟨hv, hn⟩ | ⟨g, off, cap, cur, hv, hg, _⟩
    · rw [hv] at hk; simp [Value.ownBlock] at hk
    · rw [hv] at hk; simp [Value.ownBlock] at hk; subst hk; exact (Array.getElem?_eq_some_iff.1 hg).1
  have stay : ∀ x : w.grownBy w (Value.slice A n C).ownBlock, True := fun _ => trivial
  have gself : w.grownBy w (Value.slice A n C).ownBlock := ⟨rfl, rfl, rfl, Nat.le_refl _, fun _ _ _ => rfl⟩
  have ncap : n ≤ C := by
    rcases hrow.2 with ⟨hv, hn⟩ | ⟨g, off, cap, cur, hv, hg, hc, _⟩
    · omega
    · injection hv with _ _ h3; omega
  rcases hsrc with ⟨rfl, rfl, rfl⟩ | ⟨ad, rfl, hnews⟩
  · refine ⟨A, C, w, run_append_none t ty e i ht hi A n C C2 ncap, by simpa using hrow, gself, fun k hk => ⟨.inl (by simpa using hk), same k (by simpa using hk)⟩⟩
  · have grown : ∀ (old : Nat) (pre : List Value), pre = cs → old < n + m →
        Row (w.drew.alloc (.cells (pre.toArray ++ news.toArray ++ Builtin.zeroCells z.cells (grownCap w (n + m) old e - (n + m))) e)) e i.size
          (.slice (some ⟨w.heap.size, 0, none⟩) (n + m) (grownCap w (n + m) old e)) (n + m) (cs ++ news) ∧
        ∀ row, w.grownBy (w.drew.alloc (.cells (pre.toArray ++ news.toArray ++ Builtin.zeroCells z.cells (grownCap w (n + m) old e - (n + m))) e)) row := by
      intro old pre hpre ho
      subst hpre
      have hge := grownCap_ge w (n + m) old e
      have hcm : grownCap w (n + m) old e ≤ maxLen := grownCap_le_maxLen w (n + m) old e h63
      refine ⟨⟨hlen, .inr ⟨w.heap.size, 0, _, _, rfl, Go.heap_alloc_new w.drew _, hge, hcm, ?_, ?_⟩⟩, fun row => ⟨rfl, rfl, rfl, by simp, fun k hk _ => Go.heap_alloc_old w.drew _ hk⟩⟩
      · simp only [Array.size_append, List.size_toArray, size_zeroCells, hzs, hrow.1, hl, ← Nat.add_mul, Nat.zero_add]
        exact Nat.mul_le_mul_right _ (by omega)
      · simp only [List.drop_zero, Array.toList_append]
        rw [← hlen]
        exact List.take_left
    have fresh : ∀ cap k, (Value.slice (some ⟨w.heap.size, 0, none⟩) (n + m) cap).ownBlock = some k → ∀ o, ((Value.slice A n C).ownBlock = some k ∨ w.heap.size ≤ k) ∧ k < (w.drew.alloc o).heap.size := by
      intro cap k hk o
      simp [Value.ownBlock] at hk; subst hk
      exact ⟨.inr (Nat.le_refl _), by simp⟩
    rcases hrow.2 with ⟨hv, hn⟩ | ⟨g, off, cap, cur, hv, hg, hnc, hcm, hfit, htake⟩
    · injection hv with e1 e2 e3
      subst e1; subst e3; subst hn
      have hx : cs = [] := List.eq_nil_of_length_eq_zero (by simpa using hrow.1)
      subst hx
      by_cases hm : m = 0
      · subst hm
        have hn : news = [] := List.eq_nil_of_length_eq_zero (by simpa using hl)
        subst hn
        refine ⟨none, 0, w, ?_, by simpa using hrow, gself, fun k hk => by simp [Value.ownBlock] at hk⟩
        simp [Builtin.append_, run_underlying ht, sizeOf, typeInfo, hi, Builtin.lenOf, Builtin.firstCells, loadCells, loadCellsFrom]
      · have hb : Builtin.nextslicecap m 0 * i.bytes ≤ 281474976710656 := by
          rw [nextslicecap_zero (by omega)]; simp only [Nat.zero_add] at hlim; omega
        have hr := run_append_nil (P := P) w t ty e i z ht hi hz ad m C2 news hl hnews (by omega) (by omega) (by simp only [Nat.zero_add] at hlim; omega)
        have hgr := grown 0 [] rfl (by omega)
        simp only [Nat.zero_add, List.nil_append, Array.empty_append] at hgr hr ⊢
        refine ⟨_, _, _, hr, hgr.1, hgr.2 _, fun k hk => ?_⟩
        have := fresh _ k (by simpa using hk)
        exact this _
    · injection hv with e1 e2 e3
      subst e1; subst e3
      by_cases hroom : n + m ≤ C
      · have hfit' : off + n * i.size + news.length ≤ cur.size := by
          rw [hl]
          have : (n + m) * i.size ≤ C * i.size := Nat.mul_le_mul_right _ hroom
          rw [Nat.add_mul] at this
          omega
        have hr := run_append_room_at (P := P) t ty e i ht hi g off n C cur hg ad m C2 news hl hnews h1 hroom hfit'
        refine ⟨_, _, _, hr, ⟨hlen, .inr ⟨g, off, C, _, rfl, Go.setRow_heap w g cur _ e _ hg, hroom, hcm, ?_, ?_⟩⟩, ⟨rfl, rfl, rfl, by simp, fun k hk hk2 => Go.setRow_other w g k _ (fun e => hk2 (by simp [Value.ownBlock, e]))⟩, fun k hk => ?_⟩
        · simp only [List.size_toArray, List.length_append, List.length_take, List.length_drop, Array.length_toList]
          omega
        · simp only [List.append_assoc]
          rw [List.drop_append_of_le_length (by simp; omega)]
          have h2 : (cur.toList.take (off + n * i.size)).drop off = cs := by
            rw [List.drop_take, Nat.add_sub_cancel_left]; exact htake
          rw [h2, ← List.append_assoc, ← hlen]
          exact List.take_left
        · simp [Value.ownBlock] at hk; subst hk
          exact ⟨.inl (by simp [Value.ownBlock]), by simpa using (Array.getElem?_eq_some_iff.1 hg).1⟩
      · have holds : ∀ j u, cs[j]? = some u → w.cell? ((⟨g, off, none⟩ : Addr).add j) = some u := by
          intro j u hj
          rw [addr_add_none, cell_of_row w g _ cur e (0, 0) hg]
          rw [← htake, List.getElem?_take] at hj
          split at hj
          · simpa using hj
          · cases hj
        have hr := run_append_grow (P := P) w t ty e i z ht hi hz ⟨g, off, none⟩ n C cs hrow.1 holds ad m C2 news hl hnews (by omega) (by omega) (growslice_fits (by omega) hlim)
        have hgr := grown C cs rfl (by omega)
        exact ⟨_, _, _, hr, hgr.1, hgr.2 _, fun k hk => fresh _ k hk _⟩
end

theorem Cells.src {α : Type} {K : Kd α} {w : World} {G : Bl} {A : Option Addr} {xs : List α} {C : Nat} (h : Cells K w G A xs) : ∃ cs, RepL K w G cs xs ∧ (A = none ∨ True → Src w A xs.length cs ∨ xs = [] ∧ cs = []) := by
  rcases h with hn | ⟨ad, cs, ha, hs, hr, hc⟩
  · subst hn; exact ⟨[], rfl, fun _ => .inr ⟨rfl, rfl⟩⟩
  · exact ⟨cs, hr, fun _ => .inl (.inr ⟨ad, ha, hc⟩)⟩

theorem Cells.src' {α : Type} {K : Kd α} {w : World} {G : Bl} {A : Option Addr} {xs : List α} (h : Cells K w G A xs) : ∃ cs, RepL K w G cs xs ∧ Src w A xs.length cs := by
  rcases h with hn | ⟨ad, cs, ha, hs, hr, hc⟩
  · subst hn
    refine ⟨[], rfl, ?_⟩
    cases A with
    | none => exact .inl ⟨rfl, rfl, rfl⟩
    | some a => exact .inr ⟨a, rfl, fun j u hj => by simp at hj⟩
  · exact ⟨cs, hr, .inr ⟨ad, ha, hc⟩⟩

/-- what append asks of a slice type: its elements' type, with a zero value of its own size -/
def appT (P : Program) (t : TypeId) : Option (TypeId × Nat × Nat) := match P.underlying t with
  | some (.slice e) => match P.info? e with
    | some i => match i.zero with
      | some z => match Nat.beq z.cells.size i.size && Nat.blt 0 i.size && Nat.blt 0 i.bytes with
        | true => some (e, i.size, i.bytes)
        | false => none
      | none => none
    | none => none
  | _ => none

theorem appT_spec {P : Program} {t e : TypeId} {sz by_ : Nat} (h : appT P t = some (e, sz, by_)) :
    ∃ i z, P.underlying t = some (.slice e) ∧ P.info? e = some i ∧ i.zero = some z ∧ z.cells.size = i.size ∧ 0 < i.size ∧ 0 < i.bytes ∧ i.size = sz ∧ i.bytes = by_ := by
  unfold appT at h
  cases hu : P.underlying t with
  | none => rw [hu] at h; cases h
  | some d =>
    rw [hu] at h
    cases d <;> try (cases h)
    case slice e' =>
      simp only at h
      cases hi : P.info? e' with
      | none => rw [hi] at h; cases h
      | some ti =>
        rw [hi] at h
        simp only at h
        cases hz : ti.zero with
        | none => rw [hz] at h; cases h
        | some z =>
          rw [hz] at h
          simp only at h
          cases hb : (Nat.beq z.cells.size ti.size && Nat.blt 0 ti.size && Nat.blt 0 ti.bytes) with
          | false => rw [hb] at h; cases h
          | true =>
            rw [hb] at h
            simp only [Option.some.injEq, Prod.mk.injEq] at h
            obtain ⟨rfl, rfl, rfl⟩ := h
            simp only [Bool.and_eq_true] at hb
            exact ⟨ti, z, rfl, hi, hz, Nat.eq_of_beq_eq_true hb.1.1, Nat.le_of_ble_eq_true hb.1.2, Nat.le_of_ble_eq_true hb.2, rfl, rfl⟩

section
variable {P : Program} {N : Nat} {e : Env} {ops : Array Oper} {i : Nat} {Q : Exit → Act → World → Prop} {KK : Env → World → Prop} {w B : World} {os : List Ass} {rs : List Ro} {α : Type}

theorem EO.append (hS : St B w os rs) (t ty et : TypeId) (by_ : Nat) (k : Nat) (K : Kd α) (A : Option Addr) (C : Nat) (xs : List α) (hk0 : os[k]? = some (Ass.own et K A C xs)) (A2 : Option Addr) (C2 : Nat) (ys : List α) (hr : Rd os rs K A2 C2 ys) (zs : List α) (hz : zs = xs ++ ys) (os' : Option Addr → Nat → List Ass) (d : Nat)
    (h1 : ready N e ops i = true) (h2 : opSem e ops i = some ((Builtin.append_ #[t, t] ty #[.slice A xs.length C, .slice A2 ys.length C2]).bind fun v => .pure (.value v))) (hd : dstOf ops i = some d) (ht : appT P t = some (et, K.n, by_))
    (hlim : (xs.length + ys.length) * by_ ≤ 140737488355328) (hos : ∀ A' C', os.set k (Ass.own et K A' C' zs) = os' A' C')
    (hk : ∀ A' C' w', St B w' (os' A' C') rs → KK ((d, .slice A' zs.length C') :: e) w') : EO P N e ops i Q KK w := by
  subst hz
  obtain ⟨ti, z, hu, hi, hz, hzs, hsz, hby, hs1, hs2⟩ := appT_spec ht
  obtain ⟨F1, G, ⟨cs, g1, g2, g3⟩, hF, hR, hO, hGF, hup⟩ := hS.update k hk0
  have hsrc : ∃ news, RepL K w G news ys ∧ Src w A2 ys.length news := by
    rcases hr with ⟨q, hq⟩ | ⟨q, e2, hq⟩
    · obtain ⟨a, c, he, hre, _⟩ := hR _ (List.mem_of_getElem? hq)
      simp only [List.cons.injEq, Value.slice.injEq, and_true, true_and] at he
      obtain ⟨rfl, rfl⟩ := he
      rcases hre with hn | ⟨ad, cs', ha, _, _, hrep, hcell⟩
      · exact Cells.src' (.inl hn)
      · exact ⟨cs', hrep, .inr ⟨ad, ha, hcell⟩⟩
    · obtain ⟨F', cs', q1, q2, q3⟩ := hO q _ hq
      exact (q2.cells q1).src'
  obtain ⟨news, hn1, hn2⟩ := hsrc
  subst hs2
  obtain ⟨A', C', w', hrun, hrow, hg, hblk⟩ := run_append_row (P := P) t ty et ti z hu hi hz hzs hsz hby A xs.length C cs (by rw [hs1]; exact g2) A2 ys.length C2 news (by rw [hn1.len, hs1]) hn2 hn1.one hlim
  have hlen : (xs ++ ys).length = xs.length + ys.length := List.length_append
  refine EO.semD _ (.slice A' (xs ++ ys).length C') w' d h1 h2 hd (by rw [hlen]; exact hrun) (hk A' C' w' ?_)
  rw [← hos]
  refine hup w' _ (fun x => (Value.slice A' (xs ++ ys).length C').ownBlock = some x) ⟨hg.os, hg.tape, hg.output⟩ hg.size (fun x hx hxF => hg.block x hx fun h => hxF ((g3 x).2 h.symm)) ⟨cs ++ news, ?_, by rw [hlen, ← hs1]; exact hrow, fun _ => Iff.rfl⟩ (fun x hx => ?_)
  · have keep : ∀ x, G x → w'.heap[x]? = w.heap[x]? := fun x hx => hg.block x (hGF x hx).1 fun h => (hGF x hx).2 ((g3 x).2 h.symm)
    exact (RepL.append hn1 g1).loc keep (fun _ h => h)
  · rw [hlen] at hx
    have := hblk x hx
    exact ⟨this.1.imp (fun h => (g3 x).2 h) id, this.2⟩
end
end Go.Fw
