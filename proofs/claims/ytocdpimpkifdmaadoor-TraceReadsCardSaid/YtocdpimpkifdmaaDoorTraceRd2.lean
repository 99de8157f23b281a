import Derived.Test.YtocdpimpkifdmaaDoorTraceRd
/- Lists of events read. Conditions: in the lemmas. -/
set_option linter.unusedVariables false
set_option linter.unusedSimpArgs false
namespace Go.Proofs.YtocdpimpkifdmaaDoor.Trace
open Go Go.Fw Go.RowKit Go.Proofs.YtocdpimpkifdmaaDoor.G Go.Proofs.YtocdpimpkifdmaaDoor.Pack

theorem body_cons (x : S28) (l : List S28) : body (x :: l) = encs (ns x) ++ body l := by unfold body; simp
theorem body_app (a b : List S28) : body (a ++ b) = body a ++ body b := by unfold body; simp
theorem ns_pos (x : S28) : 0 < (encs (ns x)).length := by
  have := enc_pos x.f0.toNat
  have e : encs (ns x) = enc x.f0.toNat ++ encs [x.f1.toNat, x.f2.toNat, x.f3.toNat, x.f4.toNat, u32n x.f5, u32n x.f6] := rfl
  rw [e, List.length_append]
  omega
theorem body_B (l : List S28) : IsB (body l) := by
  intro x hx
  unfold body at hx
  obtain ⟨z, hz, hxz⟩ := List.mem_flatten.1 hx
  obtain ⟨e, _, rfl⟩ := List.mem_map.1 hz
  exact encs_B _ x hxz
theorem body_ge : ∀ l : List S28, l.length ≤ (body l).length
  | [] => by simp [body]
  | x :: l => by
    have := body_ge l
    have := ns_pos x
    rw [body_cons, List.length_append, List.length_cons]
    omega
theorem recd_less (c1 c2 c3 c4 : Int) (hc : c1 ≤ mS ∧ c2 ≤ mS ∧ c3 ≤ mS ∧ c4 ≤ mS) (l : List Int) (e : Int) (hB : IsB l) (h : (recd c1 c2 c3 c4 l e).2.1 = 0) : (recd c1 c2 c3 c4 l e).1.length < l.length := by
  obtain ⟨_, h2⟩ := recd_good c1 c2 c3 c4 hc l e hB h
  have := ns_pos (recd c1 c2 c3 c4 l e).2.2
  have h3 := congrArg List.length h2
  rw [List.length_append] at h3
  omega

/-! ### the program's loop -/
theorem prog_some (K : Nat) (hK : 2000 < K) (j : List Int → Int → List S28 → Option (List S28 × Int)) : ∀ (f m n : Nat) (l : List Int) (e : Int) (out : List S28), IsB l → l.length ≤ 2000 → (e = 0 → l.length + 1 < f) → 0 < f → f ≤ m → n < 18446744073709551616 → out.length + f ≤ 9000 → (∀ x ∈ out, Sm x) →
    ∃ (l' : List Int) (e' : Int) (out' : List S28), (e' = 0 → e = 0) ∧ (∀ x ∈ out', Sm x) ∧ out'.length ≤ out.length + f ∧ trace_Read.l0 K j m l e out (n : Int) = j l' e' out' := by
  intro f
  induction f with
  | zero => intro m n l e out hB hl he hf; omega
  | succ f ih =>
    intro m n l e out hB hl he hf hm hn ho hs
    obtain ⟨m, rfl⟩ : ∃ k, m = k + 1 := ⟨m - 1, by omega⟩
    obtain ⟨r1, r2⟩ := recd_ok mS mS mS mS l e hB
    rw [trace_Read.l0.eq_2]
    unfold pack_Reader_Err.f
    simp only [lt, List.length_singleton, b3]
    by_cases h : 0 < n ∧ e = 0
    · obtain ⟨h1, rfl⟩ := h
      have hless := recd_less mS mS mS mS (by omega) l 0 hB
      have hw : IntKind.u64.wrap ((n : Int) - 1) = ((n - 1 : Nat) : Int) := by rw [wu64_id (by omega) (by omega)]; omega
      have he0 := he rfl
      obtain ⟨l', e', out', q0, q1, q2, q3⟩ := ih m (n - 1) (recd mS mS mS mS l 0).1 (recd mS mS mS mS l 0).2.1 (out ++ [(recd mS mS mS mS l 0).2.2]) r2 (by omega) (fun g => by have := hless g; omega) (by omega) (by omega) (by omega) (by simp; omega) (fun x hx => by
        rcases List.mem_append.1 hx with hx | hx
        · exact hs x hx
        · rw [List.mem_singleton.1 hx]; exact recd_sm _ _ _ _ _ _)
      refine ⟨l', e', out', fun _ => rfl, q1, (by simp at q2; omega), ?_⟩
      rw [if_pos (by omega), decide_eq_true rfl, if_pos rfl]
      refine Eq.trans (seven_f K l 0 hB hl hK (fun i2 i3 r => if (out.length + 1) * 48 ≤ 140737488355328 then trace_Read.l0 K j m i2 i3 (out ++ [r]) (IntKind.u64.wrap ((n : Int) - 1)) else none)) ?_
      rw [if_pos (by omega), hw]
      exact q3
    · refine ⟨l, e, out, id, hs, by omega, ?_⟩
      by_cases h1 : (n : Int) > 0
      · rw [if_pos h1, decide_eq_false (fun g => h ⟨by omega, g⟩), if_neg (by simp)]
      · rw [if_neg h1, if_neg (by simp)]
theorem prog_back (K : Nat) (hK : 2000 < K) (j : List Int → Int → List S28 → Option (List S28 × Int)) (rest : List Int) (hB : IsB rest) : ∀ (evs : List S28) (m : Nat) (out : List S28), (∀ x ∈ evs, Rt x ∧ Sm x) → (body evs ++ rest).length ≤ 2000 → evs.length < m → out.length + evs.length ≤ 9000 →
    trace_Read.l0 K j m (body evs ++ rest) 0 out (evs.length : Int) = j rest 0 (out ++ evs)
  | [], m, out, h, hl, hm, ho => by
    obtain ⟨m, rfl⟩ : ∃ k, m = k + 1 := ⟨m - 1, by have := hm; simp at this; omega⟩
    rw [trace_Read.l0.eq_2]
    simp only [lt]
    rw [if_neg (by simp), if_neg (by simp), List.append_nil]
    rfl
  | x :: evs, m, out, h, hl, hm, ho => by
    obtain ⟨m, rfl⟩ : ∃ k, m = k + 1 := ⟨m - 1, by have := hm; simp at this; omega⟩
    obtain ⟨hx, sx⟩ := h x (List.mem_cons_self ..)
    have hB2 : IsB (body (x :: evs) ++ rest) := (body_B _).app hB
    have hr : recd mS mS mS mS (body (x :: evs) ++ rest) 0 = (body evs ++ rest, 0, x) := by
      rw [body_cons, List.append_assoc]
      obtain ⟨h0, h1, h2, h3, h4⟩ := hx
      exact recd_enc mS mS mS mS x ⟨h0, h1, h2, h3, h4⟩ sx (by have : mS = 2147483647 := rfl; omega) _
    have hlen : (body evs ++ rest).length ≤ 2000 := by
      rw [body_cons, List.append_assoc, List.length_append] at hl
      omega
    rw [List.length_cons] at ho hm
    have hw : IntKind.u64.wrap (((evs.length + 1 : Nat) : Int) - 1) = (evs.length : Int) := by rw [wu64_id (by omega) (by omega)]; omega
    have next := prog_back K hK j rest hB evs m (out ++ [x]) (fun z hz => h z (List.mem_cons_of_mem _ hz)) hlen (by omega) (by simp; omega)
    rw [trace_Read.l0.eq_2]
    unfold pack_Reader_Err.f
    simp only [lt, List.length_singleton, List.length_cons, b3]
    rw [if_pos (by omega), if_pos (decide_eq_true trivial)]
    refine Eq.trans (seven_f K _ 0 hB2 hl hK (fun i2 i3 r => if (out.length + 1) * 48 ≤ 140737488355328 then trace_Read.l0 K j m i2 i3 (out ++ [r]) (IntKind.u64.wrap (((evs.length + 1 : Nat) : Int) - 1)) else none)) ?_
    rw [hr]
    simp only
    rw [if_pos (by omega), hw, next, List.append_assoc]
    rfl

/-! ### the document's loop -/
theorem eright_f (K : Nat) (e : S28) : confidantref21_EventRight.f K e = some (decide (Rt e)) := by
  unfold confidantref21_EventRight.f
  have no : ¬ Rt e → some false = some (decide (Rt e)) := fun h => by rw [decide_eq_false h]
  by_cases g0 : e.f0 ≥ 0
  · rw [if_pos g0]
    by_cases g1 : e.f0 ≤ 65536
    · rw [if_pos g1]
      by_cases g2 : e.f1 ≥ 0
      · rw [if_pos g2]
        by_cases g3 : e.f1 < 16
        · rw [if_pos g3]
          by_cases g4 : e.f2 ≥ 1
          · rw [if_pos g4]
            by_cases g5 : e.f2 ≤ 11
            · rw [if_pos g5]
              by_cases g6 : e.f3 ≥ 0
              · rw [if_pos g6]
                by_cases g7 : e.f3 < 8
                · rw [if_pos g7]
                  by_cases g8 : e.f4 ≥ 0
                  · rw [decide_eq_true g8, decide_eq_true (show Rt e from ⟨⟨g0, g1⟩, ⟨g2, by omega⟩, ⟨g4, g5⟩, ⟨g6, by omega⟩, g8⟩)]
                  · rw [decide_eq_false g8]; exact no (fun q => g8 q.2.2.2.2)
                · rw [if_neg g7]; exact no (fun q => g7 (by have := q.2.2.2.1.2; omega))
              · rw [if_neg g6]; exact no (fun q => g6 q.2.2.2.1.1)
            · rw [if_neg g5]; exact no (fun q => g5 q.2.2.1.2)
          · rw [if_neg g4]; exact no (fun q => g4 q.2.2.1.1)
        · rw [if_neg g3]; exact no (fun q => g3 (by have := q.2.1.2; omega))
      · rw [if_neg g2]; exact no (fun q => g2 q.2.1.1)
    · rw [if_neg g1]; exact no (fun q => g1 q.1.2)
  · rw [if_neg g0]; exact no (fun q => g0 q.1.1)
theorem ref_some (K : Nat) (hK : 2000 < K) (j : List Int → Int → List S28 → Bool → Option (List S28 × Int)) (T : Nat) (hT : T < 18446744073709551615) : ∀ (f m n i : Nat) (l : List Int) (e : Int) (out : List S28) (ok : Bool), i + n = T → IsB l → l.length ≤ 2000 → (e = 0 → l.length + 1 < f) → 0 < f → f ≤ m → out.length + f ≤ 9000 →
    ∃ (l' : List Int) (e' : Int) (out' : List S28) (ok' : Bool), (e' = 0 → e = 0) ∧ (e' = 0 → ok' = true → ok = true ∧ ∃ evs : List S28, out' = out ++ evs ∧ l = body evs ++ l' ∧ evs.length = n ∧ ∀ x ∈ evs, Rt x ∧ Sm x) ∧ confidantref21_EventsRead.l0 K j (T : Int) m l e out ok (i : Int) = j l' e' out' ok' := by
  intro f
  induction f with
  | zero => intro m n i l e out ok hi hB hl he hf; omega
  | succ f ih =>
    intro m n i l e out ok hi hB hl he hf hm ho
    obtain ⟨m, rfl⟩ : ∃ k, m = k + 1 := ⟨m - 1, by omega⟩
    obtain ⟨r1, r2⟩ := recd_ok 65536 16 11 8 l e hB
    by_cases h : 0 < n ∧ e = 0
    · obtain ⟨h1, rfl⟩ := h
      have mS' : mS = 2147483647 := rfl
      have hless := recd_less 65536 16 11 8 (by omega) l 0 hB
      have hgood := recd_good 65536 16 11 8 (by omega) l 0 hB
      have hsm := recd_sm 65536 16 11 8 l 0
      have hw : IntKind.u64.wrap ((i : Int) + 1) = ((i + 1 : Nat) : Int) := by rw [wu64_id (by omega) (by omega)]; omega
      have he0 := he rfl
      have key : ∀ (g : List Int → Int → S28 → Option (List S28 × Int)), (∀ i2 i3 r, g i2 i3 r = confidantref21_EventsRead.l0 K j (T : Int) m i2 i3 (out ++ [r]) (if ok = true then decide (Rt r) else false) ((i + 1 : Nat) : Int)) → confidantref21_EventsRead.l0 K j (T : Int) (m + 1) l 0 out ok (i : Int) = g (recd 65536 16 11 8 l 0).1 (recd 65536 16 11 8 l 0).2.1 (recd 65536 16 11 8 l 0).2.2 := by
        intro g hg
        rw [confidantref21_EventsRead.l0.eq_2]
        simp only [lt, List.length_singleton]
        rw [if_pos (by omega), if_pos (decide_eq_true trivial)]
        refine Eq.trans (rseven_f K l 0 hB hl hK (fun i2 i3 r => if ok = true then (b1 (confidantref21_EventRight.f K r) fun (g1 : Bool) => if (out.length + 1) * 48 ≤ 140737488355328 then confidantref21_EventsRead.l0 K j (T : Int) m i2 i3 (out ++ [r]) g1 (IntKind.u64.wrap ((i : Int) + 1)) else none) else (if (out.length + 1) * 48 ≤ 140737488355328 then confidantref21_EventsRead.l0 K j (T : Int) m i2 i3 (out ++ [r]) false (IntKind.u64.wrap ((i : Int) + 1)) else none))) ?_
        rw [hg, eright_f, hw]
        have hlen : (out.length + 1) * 48 ≤ 140737488355328 := by omega
        simp only [b1, hlen, if_true]
        cases ok <;> rfl
      rw [key _ (fun _ _ _ => rfl)]
      obtain ⟨l', e', out', ok', q0, q1, q2⟩ := ih m (n - 1) (i + 1) (recd 65536 16 11 8 l 0).1 (recd 65536 16 11 8 l 0).2.1 (out ++ [(recd 65536 16 11 8 l 0).2.2]) (if ok = true then decide (Rt (recd 65536 16 11 8 l 0).2.2) else false) (by omega) r2 (by omega) (fun g => by have := hless g; omega) (by omega) (by omega) (by simp; omega)
      refine ⟨l', e', out', ok', fun _ => rfl, fun z1 z2 => ?_, q2⟩
      obtain ⟨k1, evs, k2, k3, k4, k5⟩ := q1 z1 z2
      have hok : ok = true := by cases ok with | true => rfl | false => exact absurd k1 (by simp)
      rw [if_pos hok] at k1
      have hrt := of_decide_eq_true k1
      have hez : (recd 65536 16 11 8 l 0).2.1 = 0 := q0 z1
      obtain ⟨_, hl2⟩ := hgood hez
      refine ⟨hok, (recd 65536 16 11 8 l 0).2.2 :: evs, by rw [k2, List.append_assoc]; rfl, ?_, by rw [List.length_cons, k4]; omega, fun x hx => ?_⟩
      · rw [body_cons, List.append_assoc, ← k3]
        exact hl2
      · rcases List.mem_cons.1 hx with rfl | hx
        · exact ⟨hrt, hsm⟩
        · exact k5 x hx
    · refine ⟨l, e, out, ok, id, fun z1 z2 => ⟨z2, [], by simp, by simp [body], (by have : ¬ 0 < n := fun q => h ⟨q, z1⟩; simp; omega), fun x hx => nomatch hx⟩, ?_⟩
      rw [confidantref21_EventsRead.l0.eq_2]
      simp only [lt]
      by_cases h1 : (i : Int) < (T : Int)
      · rw [if_pos h1, decide_eq_false (fun g => h ⟨by omega, g⟩), if_neg (by simp)]
      · rw [if_neg h1, if_neg (by simp)]
theorem ref_back (K : Nat) (hK : 2000 < K) (j : List Int → Int → List S28 → Bool → Option (List S28 × Int)) (T : Nat) (hT : T < 18446744073709551615) (rest : List Int) (hB : IsB rest) : ∀ (evs : List S28) (m i : Nat) (out : List S28), i + evs.length = T → (∀ x ∈ evs, Rt x ∧ Sm x) → (body evs ++ rest).length ≤ 2000 → evs.length < m → out.length + evs.length ≤ 9000 →
    confidantref21_EventsRead.l0 K j (T : Int) m (body evs ++ rest) 0 out true (i : Int) = j rest 0 (out ++ evs) true
  | [], m, i, out, hi, h, hl, hm, ho => by
    obtain ⟨m, rfl⟩ : ∃ k, m = k + 1 := ⟨m - 1, by have := hm; simp at this; omega⟩
    rw [confidantref21_EventsRead.l0.eq_2]
    simp only [lt]
    rw [List.length_nil] at hi
    rw [if_neg (by omega), if_neg (by simp), List.append_nil]
    rfl
  | x :: evs, m, i, out, hi, h, hl, hm, ho => by
    obtain ⟨m, rfl⟩ : ∃ k, m = k + 1 := ⟨m - 1, by have := hm; simp at this; omega⟩
    obtain ⟨hx, sx⟩ := h x (List.mem_cons_self ..)
    have hB2 : IsB (body (x :: evs) ++ rest) := (body_B _).app hB
    have hr : recd 65536 16 11 8 (body (x :: evs) ++ rest) 0 = (body evs ++ rest, 0, x) := by
      rw [body_cons, List.append_assoc]
      have hx' := hx
      obtain ⟨h0, h1, h2, h3, h4⟩ := hx'
      exact recd_enc 65536 16 11 8 x hx sx (by omega) _
    have hlen : (body evs ++ rest).length ≤ 2000 := by
      rw [body_cons, List.append_assoc, List.length_append] at hl
      omega
    rw [List.length_cons] at ho hm hi
    have hw : IntKind.u64.wrap ((i : Int) + 1) = ((i + 1 : Nat) : Int) := by rw [wu64_id (by omega) (by omega)]; omega
    have next := ref_back K hK j T hT rest hB evs m (i + 1) (out ++ [x]) (by omega) (fun z hz => h z (List.mem_cons_of_mem _ hz)) hlen (by omega) (by simp; omega)
    rw [confidantref21_EventsRead.l0.eq_2]
    simp only [lt, List.length_singleton]
    rw [if_pos (by omega), if_pos (decide_eq_true trivial)]
    refine Eq.trans (rseven_f K _ 0 hB2 hl hK (fun i2 i3 r => if true = true then (b1 (confidantref21_EventRight.f K r) fun (g1 : Bool) => if (out.length + 1) * 48 ≤ 140737488355328 then confidantref21_EventsRead.l0 K j (T : Int) m i2 i3 (out ++ [r]) g1 (IntKind.u64.wrap ((i : Int) + 1)) else none) else (if (out.length + 1) * 48 ≤ 140737488355328 then confidantref21_EventsRead.l0 K j (T : Int) m i2 i3 (out ++ [r]) false (IntKind.u64.wrap ((i : Int) + 1)) else none))) ?_
    have hlen2 : (out.length + 1) * 48 ≤ 140737488355328 := by omega
    rw [hr]
    simp only [if_true, eright_f, b1, hlen2, hw, decide_eq_true hx]
    rw [next, List.append_assoc]
    rfl
end Go.Proofs.YtocdpimpkifdmaaDoor.Trace
