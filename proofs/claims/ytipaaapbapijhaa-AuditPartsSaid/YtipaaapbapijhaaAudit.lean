import Derived.Test.YtipaaapbapijhaaG0
import Derived.Test.YtipaaapbapijhaaG1
import Derived.Test.YtipaaapbapijhaaG2
import Derived.Test.YtipaaapbapijhaaFwLaw
/- Logs of what was released: what Add, Of, some tell. Conditions: in the lemmas. -/
set_option linter.unusedVariables false
set_option linter.unusedSimpArgs false
namespace Go.Proofs.Ytipaaapbapijhaa.Audit
open Go Go.Fw Go.RowKit Go.Proofs.Ytipaaapbapijhaa.G

theorem lt_all {α β : Type} {e : α} {b : α → Option β} {r : Option β} (P : α → Prop) (he : P e) (hb : ∀ x, P x → b x = r) : lt e b = r := hb e he
theorem eta (x : S69) : (⟨x.f0, x.f1, x.f2, x.f3, x.f4, x.f5⟩ : S69) = x := rfl

theorem index_l (K : Nat) (l : List Int) (hl : l.length ≤ 1000) (x : Int) : ∀ (d n i : Nat), i + d = l.length → d < n → (∀ j, j < i → l.getD j 0 ≠ x) →
    ∃ r : Int, slices_Index_int_int.l0 K l x n (i : Int) = some r ∧ (r ≥ 0 ↔ x ∈ l)
  | 0, n, i, hd, hn, h => by
    obtain ⟨n, rfl⟩ : ∃ k, n = k + 1 := ⟨n - 1, by omega⟩
    rw [slices_Index_int_int.l0.eq_2, if_neg (by omega)]
    refine ⟨-1, rfl, by omega, fun hx => ?_⟩
    obtain ⟨j, hj, rfl⟩ := List.mem_iff_getElem.1 hx
    exact absurd (by simp [List.getD, hj]) (h j (by omega))
  | d + 1, n, i, hd, hn, h => by
    obtain ⟨n, rfl⟩ : ∃ k, n = k + 1 := ⟨n - 1, by omega⟩
    have hi : i < l.length := by omega
    have e : l.getD i 0 = l[i] := by simp [List.getD, hi]
    rw [slices_Index_int_int.l0.eq_2, if_pos (by omega), if_pos (by omega), Int.toNat_natCast]
    by_cases hx : x = l.getD i 0
    · rw [if_pos hx]
      exact ⟨(i : Int), rfl, fun _ => by rw [hx, e]; exact List.getElem_mem hi, fun _ => by omega⟩
    · rw [if_neg hx, w64_id (by omega) (by omega), show ((i : Int) + 1) = ((i + 1 : Nat) : Int) by omega]
      refine index_l K l hl x d n (i + 1) (by omega) (by omega) (fun j hj => ?_)
      by_cases hji : j = i
      · subst hji; exact fun g => hx g.symm
      · exact h j (by omega)
theorem contains_f (K : Nat) (hK : 2000 ≤ K) (l : List Int) (hl : l.length ≤ 1000) (x : Int) : slices_Contains_int_int.f K l x = some (decide (x ∈ l)) := by
  unfold slices_Contains_int_int.f slices_Index_int_int.f
  obtain ⟨r, h1, h2⟩ := index_l K l hl x l.length K 0 (by omega) (by omega) (fun j hj => by omega)
  rw [show (0 : Int) = ((0 : Nat) : Int) from rfl, h1]
  simp only [b1]
  congr 1
  exact decide_eq_decide.2 h2

/-- those that went to some labels -/
def of_ (l : List S69) (to : List Int) : List S69 := l.filter (fun r => decide (r.f2 ∈ to))
theorem of_l (K : Nat) (hK : 2000 ≤ K) (l : List S69) (hl : l.length ≤ 1000) (to : List Int) (ht : to.length ≤ 1000) : ∀ (d n i : Nat), i + d = l.length → d < n → audit_Log_Of_21.l0 K l to n (of_ (l.take i) to) (i : Int) = some (of_ l to)
  | 0, n, i, hd, hn => by
    obtain ⟨n, rfl⟩ : ∃ k, n = k + 1 := ⟨n - 1, by omega⟩
    rw [audit_Log_Of_21.l0.eq_2, if_neg (by omega), List.take_of_length_le (by omega)]
  | d + 1, n, i, hd, hn => by
    obtain ⟨n, rfl⟩ : ∃ k, n = k + 1 := ⟨n - 1, by omega⟩
    have hi : i < l.length := by omega
    have e : l.getD (i : Int).toNat zS69 = l[i] := by simp [List.getD, hi]
    have e2 : l.take (i + 1) = l.take i ++ [l[i]] := by rw [List.take_add_one]; simp [hi]
    have hlen : (of_ (l.take i) to).length ≤ l.length := by
      unfold of_
      refine Nat.le_trans (List.length_filter_le _ _) ?_
      rw [List.length_take]; omega
    rw [audit_Log_Of_21.l0.eq_2, if_pos (by omega)]
    simp only [lt]
    rw [if_pos (by omega), e, contains_f K hK to ht]
    simp only [b1, eta, List.length_singleton]
    have next := of_l K hK l hl to ht d n (i + 1) (by omega) (by omega)
    rw [e2] at next
    unfold of_ at next hlen ⊢
    rw [List.filter_append] at next
    rw [w64_id (by omega) (by omega), show ((i : Int) + 1) = ((i + 1 : Nat) : Int) by omega]
    by_cases h : l[i].f2 ∈ to
    · rw [if_pos (decide_eq_true h), if_pos (by omega)]
      have e3 : List.filter (fun r => decide (r.f2 ∈ to)) [l[i]] = [l[i]] := by simp [h]
      rw [e3] at next
      exact next
    · rw [if_neg (by simpa using h)]
      have e3 : List.filter (fun r => decide (r.f2 ∈ to)) [l[i]] = [] := by simp [h]
      rw [e3, List.append_nil] at next
      exact next
theorem of_f (K : Nat) (hK : 2000 ≤ K) (l : List S69) (hl : l.length ≤ 1000) (to : List Int) (ht : to.length ≤ 1000) : audit_Log_Of_21.f K l to = some (of_ l to) := by
  have h := of_l K hK l hl to ht l.length K 0 (by omega) (by omega)
  have e : of_ (l.take 0) to = [] := rfl
  rw [e] at h
  exact h
theorem add_f (K : Nat) (l r : List S69) (hl : l.length ≤ 1000) (hr : r.length ≤ 1000) : audit_Log_Add.f K l r = some (l ++ r) := by
  unfold audit_Log_Add.f
  simp only [lt]
  rw [if_pos (by omega)]
theorem same_l (K : Nat) (l : List S69) (hl : l.length ≤ 1000) : ∀ (d n i : Nat), i + d = l.length → d < n → confidantref21_SameAudit.l0 K l l n (i : Int) = some true
  | 0, n, i, hd, hn => by
    obtain ⟨n, rfl⟩ : ∃ k, n = k + 1 := ⟨n - 1, by omega⟩
    rw [confidantref21_SameAudit.l0.eq_2, if_neg (by omega)]
  | d + 1, n, i, hd, hn => by
    obtain ⟨n, rfl⟩ : ∃ k, n = k + 1 := ⟨n - 1, by omega⟩
    rw [confidantref21_SameAudit.l0.eq_2, if_pos (by omega), if_pos (by omega), if_pos (by omega), if_pos (by simp), w64_id (by omega) (by omega), show ((i : Int) + 1) = ((i + 1 : Nat) : Int) by omega]
    exact same_l K l hl d n (i + 1) (by omega) (by omega)
theorem same_f (K : Nat) (hK : 2000 ≤ K) (l : List S69) (hl : l.length ≤ 1000) : confidantref21_SameAudit.f K l l = some true := by
  unfold confidantref21_SameAudit.f
  rw [if_pos rfl]
  exact same_l K l hl l.length K 0 (by omega) (by omega)

/-! ### records of numbers -/
/-- those of one label -/
def ofk (l : List S69) (k : Int) : List S69 := l.filter (fun r => decide (r.f2 = k))
structure Good (l : List S69) (rd : Int) (s : Int → Int) : Prop where
  to : ∀ r ∈ l, 0 ≤ r.f2 ∧ r.f2 < 4
  le : ∀ r ∈ l, r.f4 ≤ rd
  len : ∀ k, 0 ≤ k → k < 4 → ((ofk l k).length : Int) = s k
  seq : ∀ k, 0 ≤ k → k < 4 → ∀ (j : Nat) (h : j < (ofk l k).length), (ofk l k)[j].f0 = (j : Int)
  up : ∀ k, 0 ≤ k → k < 4 → ∀ (j : Nat) (h : j + 1 < (ofk l k).length), (ofk l k)[j].f4 ≤ (ofk l k)[j + 1].f4
theorem ofk_app (l : List S69) (r : S69) (k : Int) : ofk (l ++ [r]) k = if r.f2 = k then ofk l k ++ [r] else ofk l k := by
  unfold ofk
  rw [List.filter_append]
  by_cases h : r.f2 = k
  · rw [if_pos h]; simp [h]
  · rw [if_neg h]; simp [h]
theorem Good.add {l : List S69} {rd rd' : Int} {s s' : Int → Int} (h : Good l rd s) (r : S69) (hk : 0 ≤ r.f2 ∧ r.f2 < 4) (hseq : r.f0 = s r.f2) (hr : r.f4 = rd') (hrd : rd ≤ rd') (hs : ∀ k, s' k = if r.f2 = k then s k + 1 else s k) : Good (l ++ [r]) rd' s' := by
  refine ⟨fun x hx => ?_, fun x hx => ?_, fun k h0 h4 => ?_, fun k h0 h4 j hj => ?_, fun k h0 h4 j hj => ?_⟩
  · rcases List.mem_append.1 hx with hx | hx
    · exact h.to x hx
    · rw [List.mem_singleton.1 hx]; exact hk
  · rcases List.mem_append.1 hx with hx | hx
    · have := h.le x hx; omega
    · rw [List.mem_singleton.1 hx]; omega
  · rw [ofk_app, hs k]
    have := h.len k h0 h4
    by_cases hh : r.f2 = k
    · rw [if_pos hh, if_pos hh]; simp; omega
    · rw [if_neg hh, if_neg hh]; exact this
  · by_cases hh : r.f2 = k
    · have e := ofk_app l r k
      rw [if_pos hh] at e
      have hl := h.len k h0 h4
      have hj2 : j < (ofk l k ++ [r]).length := by rw [← e]; exact hj
      have e2 : (ofk (l ++ [r]) k)[j] = (ofk l k ++ [r])[j] := by simp only [e]
      rw [e2]
      by_cases hlt : j < (ofk l k).length
      · rw [List.getElem_append_left hlt]; exact h.seq k h0 h4 j hlt
      · rw [List.getElem_append_right (by omega)]
        simp at hj2
        have : j = (ofk l k).length := by omega
        subst this
        simp [hseq, hh, hl]
    · have e := ofk_app l r k
      rw [if_neg hh] at e
      have hj2 : j < (ofk l k).length := by rw [← e]; exact hj
      have e2 : (ofk (l ++ [r]) k)[j] = (ofk l k)[j] := by simp only [e]
      rw [e2]; exact h.seq k h0 h4 j hj2
  · by_cases hh : r.f2 = k
    · have e := ofk_app l r k
      rw [if_pos hh] at e
      have hj2 : j + 1 < (ofk l k ++ [r]).length := by rw [← e]; exact hj
      have e2 : (ofk (l ++ [r]) k)[j] = (ofk l k ++ [r])[j] := by simp only [e]
      have e3 : (ofk (l ++ [r]) k)[j + 1] = (ofk l k ++ [r])[j + 1] := by simp only [e]
      rw [e2, e3]
      simp at hj2
      by_cases hlt : j + 1 < (ofk l k).length
      · rw [List.getElem_append_left (by omega), List.getElem_append_left hlt]; exact h.up k h0 h4 j hlt
      · rw [List.getElem_append_left (by omega), List.getElem_append_right (by omega)]
        have hm : (ofk l k)[j] ∈ l := (List.mem_filter.1 (List.getElem_mem (by omega : j < (ofk l k).length))).1
        have := h.le _ hm
        simp
        omega
    · have e := ofk_app l r k
      rw [if_neg hh] at e
      have hj2 : j + 1 < (ofk l k).length := by rw [← e]; exact hj
      have e2 : (ofk (l ++ [r]) k)[j] = (ofk l k)[j] := by simp only [e]
      have e3 : (ofk (l ++ [r]) k)[j + 1] = (ofk l k)[j + 1] := by simp only [e]
      rw [e2, e3]; exact h.up k h0 h4 j hj2

def four (a b c d k : Int) : Int := if k = 0 then a else if k = 1 then b else if k = 2 then c else if k = 3 then d else 0
theorem some_l (K : Nat) (l : List S111) (hl : l.length ≤ 30) (ho : ∀ x ∈ l, okS111 x) : ∀ (d n i : Nat) (a b c e : Int) (out : List S69) (rd : Int), i + d = l.length → d < n → out.length = i → 0 ≤ rd → rd ≤ 10 * i → (∀ z ∈ [a, b, c, e], 0 ≤ z ∧ z ≤ i) → Good out rd (four a b c e) →
    ∃ x rd' s', confidantlaw22_some.l0 K l n a b c e out rd (i : Int) = some x ∧ x.length = l.length ∧ Good x rd' s'
  | 0, n, i, a, b, c, e, out, rd, hd, hn, hlen, h0, h1, hz, hg => by
    obtain ⟨n, rfl⟩ : ∃ k, n = k + 1 := ⟨n - 1, by omega⟩
    rw [confidantlaw22_some.l0.eq_2, if_neg (by omega)]
    exact ⟨out, rd, _, rfl, by omega, hg⟩
  | d + 1, n, i, a, b, c, e, out, rd, hd, hn, hlen, h0, h1, hz, hg => by
    obtain ⟨n, rfl⟩ : ∃ k, n = k + 1 := ⟨n - 1, by omega⟩
    have hi : i < l.length := by omega
    have ex : l.getD (i : Int).toNat zS111 = l[i] := by simp [List.getD, hi]
    obtain ⟨o0, o1, o2, o3, _⟩ := ho _ (List.getElem_mem hi)
    have u0 := is_u8 o0
    have u1 := is_u8 o1
    have ha := hz a (by simp)
    have hb := hz b (by simp)
    have hc := hz c (by simp)
    have he := hz e (by simp)
    have er : IntKind.i64.wrap (rd + IntKind.i64.wrap (Int.tmod l[i].f0 3)) = rd + l[i].f0 % 3 := by
      rw [Int.tmod_eq_emod_of_nonneg (by omega), w64_id (x := l[i].f0 % 3) (by omega) (by omega), w64_id (by omega) (by omega)]
    obtain ⟨k, hk, hk4⟩ : ∃ k : Nat, IntKind.i64.wrap (Int.tmod l[i].f1 4) = (k : Int) ∧ k < 4 := by
      refine ⟨(l[i].f1 % 4).toNat, ?_, by omega⟩
      rw [Int.tmod_eq_emod_of_nonneg (by omega), w64_id (by omega) (by omega)]; omega
    have e64 : ∀ z : Int, 0 ≤ z → z ≤ i → IntKind.i64.wrap (z + 1) = z + 1 := fun z h h' => w64_id (by omega) (by omega)
    rw [confidantlaw22_some.l0.eq_2, if_pos (by omega)]
    simp only [lt, ex, er, hk, List.length_singleton, e64 a ha.1 ha.2, e64 b hb.1 hb.2, e64 c hc.1 hc.2, e64 e he.1 he.2]
    rw [if_pos (by omega), w64_id (x := (i : Int) + 1) (by omega) (by omega), show ((i : Int) + 1) = ((i + 1 : Nat) : Int) by omega]
    have rec_ : ∀ (a' b' c' e' : Int) (r : S69), r.f2 = (k : Int) → r.f0 = four a b c e (k : Int) → r.f4 = rd + l[i].f0 % 3 → (∀ z ∈ [a', b', c', e'], 0 ≤ z ∧ z ≤ ((i + 1 : Nat) : Int)) → (∀ q, four a' b' c' e' q = if (k : Int) = q then four a b c e q + 1 else four a b c e q) →
        ∃ x rd' s', confidantlaw22_some.l0 K l n a' b' c' e' (out ++ [r]) (rd + l[i].f0 % 3) ((i + 1 : Nat) : Int) = some x ∧ x.length = l.length ∧ Good x rd' s' := by
      intro a' b' c' e' r g1 g2 g3 g4 g5
      exact some_l K l hl ho d n (i + 1) a' b' c' e' (out ++ [r]) _ (by omega) (by omega) (by simp [hlen]) (by omega) (by omega) g4 (hg.add r (by rw [g1]; omega) (by rw [g1]; exact g2) g3 (by omega) (fun q => by rw [g1]; exact g5 q))
    rcases (by omega : k = 0 ∨ k = 1 ∨ k = 2 ∨ k = 3) with rfl | rfl | rfl | rfl
    · rw [if_pos (by omega), if_pos (by omega), if_pos (by decide)]
      refine rec_ (a + 1) b c e _ rfl rfl rfl (fun z hz' => ?_) (fun q => ?_)
      · simp only [List.mem_cons, List.not_mem_nil, or_false] at hz'; omega
      · unfold four; repeat' split
        all_goals omega
    · rw [if_neg (by omega), if_pos (by omega), if_pos (by omega), if_neg (by decide), if_pos (by decide)]
      refine rec_ a (b + 1) c e _ rfl rfl rfl (fun z hz' => ?_) (fun q => ?_)
      · simp only [List.mem_cons, List.not_mem_nil, or_false] at hz'; omega
      · unfold four; repeat' split
        all_goals omega
    · rw [if_neg (by omega), if_neg (by omega), if_pos (by omega), if_pos (by omega), if_neg (by decide), if_neg (by decide), if_pos (by decide)]
      refine rec_ a b (c + 1) e _ rfl rfl rfl (fun z hz' => ?_) (fun q => ?_)
      · simp only [List.mem_cons, List.not_mem_nil, or_false] at hz'; omega
      · unfold four; repeat' split
        all_goals omega
    · rw [if_neg (by omega), if_neg (by omega), if_neg (by omega), if_pos (by omega), if_pos (by omega), if_neg (by decide), if_neg (by decide), if_neg (by decide), if_pos (by decide)]
      refine rec_ a b c (e + 1) _ rfl rfl rfl (fun z hz' => ?_) (fun q => ?_)
      · simp only [List.mem_cons, List.not_mem_nil, or_false] at hz'; omega
      · unfold four; repeat' split
        all_goals omega
theorem known_f : ∃ K, 5000 ≤ K ∧ confidantlaw22_known.f K = some true := ⟨5000, Nat.le_refl _, by kernel_rfl⟩
end Go.Proofs.Ytipaaapbapijhaa.Audit
