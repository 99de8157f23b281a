import Derived.Test.YtocdpimpkifdmaaDoorTraceRd2
import Derived.Test.YtocdpimpkifdmaaDoorG8
/- Which events any bytes are. No condition. -/
set_option linter.unusedVariables false
set_option linter.unusedSimpArgs false
namespace Go.Proofs.YtocdpimpkifdmaaDoor.Pure
open Go Go.Fw Go.RowKit Go.Proofs.YtocdpimpkifdmaaDoor.G Go.Proofs.YtocdpimpkifdmaaDoor.Pack Go.Proofs.YtocdpimpkifdmaaDoor.Trace

theorem known_r : ∃ K, 5000 ≤ K ∧ K ≤ 8000 ∧ confidantlaw23_known.f K = some true := ⟨5000, Nat.le_refl _, by omega, by kernel_rfl⟩
theorem same_l' (K : Nat) (l : List S28) (hl : l.length ≤ 4000) : ∀ (d n i : Nat), i + d = l.length → d < n → confidantref21_SameEvents.l0 K l l n (i : Int) = some true
  | 0, n, i, hd, hn => by
    obtain ⟨n, rfl⟩ : ∃ k, n = k + 1 := ⟨n - 1, by omega⟩
    rw [confidantref21_SameEvents.l0.eq_2, if_neg (by omega)]
  | d + 1, n, i, hd, hn => by
    obtain ⟨n, rfl⟩ : ∃ k, n = k + 1 := ⟨n - 1, by omega⟩
    rw [confidantref21_SameEvents.l0.eq_2, if_pos (by omega), if_pos (by omega), if_pos (by omega), if_pos (by simp), w64_id (by omega) (by omega), show ((i : Int) + 1) = ((i + 1 : Nat) : Int) by omega]
    exact same_l' K l hl d n (i + 1) (by omega) (by omega)
theorem same_f' (K : Nat) (hK : 5000 ≤ K) (l : List S28) (hl : l.length ≤ 4000) : confidantref21_SameEvents.f K l l = some true := by
  unfold confidantref21_SameEvents.f
  rw [if_pos rfl]
  exact same_l' K l hl l.length K 0 (by omega) (by omega)
/-- these bytes are these events -/
def Good (b : List Int) (l : List S28) : Prop := b = enc l.length ++ body l ∧ ∀ x ∈ l, Rt x ∧ Sm x
theorem Good.len {b : List Int} {l : List S28} (h : Good b l) (hb : b.length ≤ 1900) : l.length ≤ 1900 ∧ (body l).length ≤ 1900 := by
  have h1 := congrArg List.length h.1
  have h2 := body_ge l
  rw [List.length_append] at h1
  omega
theorem all_of {l : List S28} (h : ∀ x ∈ l, Rt x ∧ Sm x) : all l = true := by
  unfold all
  rw [List.all_eq_true]
  exact fun x hx => decide_eq_true (h x hx).1
theorem all_to {l : List S28} (h : all l = true) : ∀ x ∈ l, Rt x := fun x hx => of_decide_eq_true (List.all_eq_true.1 h x hx)

/-- what the program does behind its loop -/
theorem fin_p (K : Nat) (hK : 5000 ≤ K) (b : List Int) (hB : IsB b) (l' : List Int) (e' : Int) (out : List S28) (hs : ∀ x ∈ out, Sm x) (ho : out.length ≤ 4000) :
    (lt (fun (i4 : List Int) (j8 : Int) (g8 : Bool) => (if g8 = true then (some (([] : List S28), (20 : Int))) else (some (out, 0)))) fun j4 => (b3 (pack_Reader_Err.f K l' e') fun (d7 : List Int) (e9 : Int) (g4 : Int) => (if g4 = 0 then (b1 (trace_Put.f K out) fun (i2 : List Int) => (b1 (bytes_Equal.f K i2 b) fun (i3 : Bool) => (j4 d7 e9 (!(i3))))) else (j4 d7 e9 true)))) = some (if e' = 0 ∧ (if all out = true then enc out.length ++ body out else []) = b then (out, 0) else ([], 20)) := by
  unfold pack_Reader_Err.f bytes_Equal.f
  simp only [lt, b3]
  by_cases he : e' = 0
  · rw [if_pos he, tput_f K (by omega) out (by omega) (by omega) hs]
    simp only [b1]
    have hPB : IsB (if all out = true then enc out.length ++ body out else []) := by
      split
      · exact (enc_B _).app (body_B _)
      · exact IsB.nil
    rw [bStr_eq hPB hB]
    by_cases hq : (if all out = true then enc out.length ++ body out else []) = b
    · rw [decide_eq_true hq, if_neg (by simp), if_pos ⟨he, hq⟩]
    · rw [decide_eq_false hq, if_pos (by simp), if_neg (fun z => hq z.2)]
  · rw [if_neg he, if_pos trivial, if_neg (fun z => he z.1)]
theorem read_some (K : Nat) (hK : 5000 ≤ K) (hK2 : K ≤ 8000) (b : List Int) (hB : IsB b) (hl : b.length ≤ 1900) : ∃ r : List S28 × Int, trace_Read.f K b = some r ∧ (r = ([], 20) ∨ ∃ l, r = (l, 0) ∧ Good b l) := by
  unfold trace_Read.f pack_New.f
  simp only [b2]
  rw [num_look K b 0 _ (by omega) hB (by omega)]
  obtain ⟨h1, h2, h3, h4, h5⟩ := look_ok b 0 9223372036854775807 hB
  have h0 : b = [] → (lookN b 0 9223372036854775807).2.1 ≠ 0 := fun h => by subst h; decide
  generalize lookN b 0 9223372036854775807 = a1 at *
  obtain ⟨n, hn⟩ : ∃ n : Nat, a1.2.2 = (n : Int) := ⟨a1.2.2.toNat, by omega⟩
  obtain ⟨l', e', out, q0, q1, q2, q3⟩ := prog_some K (by omega) (fun (d5 : List Int) (g6 : Int) (a9 : List S28) => (lt (fun (i4 : List Int) (j8 : Int) (g8 : Bool) => (if g8 = true then (some (([] : List S28), (20 : Int))) else (some (a9, 0)))) fun j4 => (b3 (pack_Reader_Err.f K d5 g6) fun (d7 : List Int) (e9 : Int) (g4 : Int) => (if g4 = 0 then (b1 (trace_Put.f K a9) fun (i2 : List Int) => (b1 (bytes_Equal.f K i2 b) fun (i3 : Bool) => (j4 d7 e9 (!(i3))))) else (j4 d7 e9 true))))) 3000 K n a1.1 a1.2.1 [] h2 (by omega) (fun _ => by omega) (by omega) (by omega) (by omega) (by simp) (fun x hx => nomatch hx)
  rw [fin_p K hK b hB l' e' out q1 (by simp at q2; omega), ← hn] at q3
  refine ⟨_, q3, ?_⟩
  by_cases h : e' = 0 ∧ (if all out = true then enc out.length ++ body out else []) = b
  · rw [if_pos h]
    refine Or.inr ⟨out, rfl, ?_⟩
    by_cases ha : all out = true
    · have hq := h.2
      rw [if_pos ha] at hq
      exact ⟨hq.symm, fun x hx => ⟨all_to ha x hx, q1 x hx⟩⟩
    · have hq := h.2
      rw [if_neg ha] at hq
      exact absurd (q0 h.1) (h0 hq.symm)
  · rw [if_neg h]; exact Or.inl rfl
theorem look_one (n : Nat) (m : Int) (r : List Int) (hn : n < 18446744073709551616) (hm : (n : Int) ≤ m) : lookN (enc n ++ r) 0 m = (r, 0, (n : Int)) := by
  unfold lookN
  rw [if_pos rfl, rd_enc m n r hn, if_neg (by omega)]
theorem read_good (K : Nat) (hK : 5000 ≤ K) (b : List Int) (hB : IsB b) (hl : b.length ≤ 1900) (l : List S28) (h : Good b l) : trace_Read.f K b = some (l, 0) := by
  obtain ⟨k1, k2⟩ := h.len hl
  have hb := h.1
  unfold trace_Read.f pack_New.f
  simp only [b2]
  rw [num_look K b 0 _ (by omega) hB (by omega)]
  have hl0 : lookN b 0 9223372036854775807 = (body l, 0, (l.length : Int)) := by rw [hb]; exact look_one l.length _ (body l) (by omega) (by omega)
  rw [hl0]
  simp only [lt, b3]
  have hp := prog_back K (by omega) (fun (d5 : List Int) (g6 : Int) (a9 : List S28) => (lt (fun (i4 : List Int) (j8 : Int) (g8 : Bool) => (if g8 = true then (some (([] : List S28), (20 : Int))) else (some (a9, 0)))) fun j4 => (b3 (pack_Reader_Err.f K d5 g6) fun (d7 : List Int) (e9 : Int) (g4 : Int) => (if g4 = 0 then (b1 (trace_Put.f K a9) fun (i2 : List Int) => (b1 (bytes_Equal.f K i2 b) fun (i3 : Bool) => (j4 d7 e9 (!(i3))))) else (j4 d7 e9 true))))) [] IsB.nil l K [] h.2 (by rw [List.append_nil]; omega) (by omega) (by simp; omega)
  rw [List.append_nil, List.nil_append] at hp
  refine hp.trans ?_
  rw [fin_p K hK b hB [] 0 l (fun x hx => (h.2 x hx).2) (by omega), if_pos ⟨rfl, by rw [if_pos (all_of h.2)]; exact hb.symm⟩]
theorem ref_read (K : Nat) (hK : 5000 ≤ K) (b : List Int) (hB : IsB b) (hl : b.length ≤ 1900) : ∃ r : List S28 × Int, confidantref21_EventsRead.f K b = some r ∧ (r = ([], 20) ∨ ∃ l, r = (l, 0) ∧ Good b l) := by
  unfold confidantref21_EventsRead.f
  rw [rnum_look K b 0 _ (by omega) hB (by omega)]
  obtain ⟨h1, h2, h3, h4, h5⟩ := look_ok b 0 2147483648 hB
  have hg := look_good b 0 2147483648 hB
  generalize lookN b 0 2147483648 = a1 at *
  obtain ⟨n, hn⟩ : ∃ n : Nat, a1.2.2 = (n : Int) := ⟨a1.2.2.toNat, by omega⟩
  have hT : n < 18446744073709551615 := by
    by_cases h : a1.2.1 = 0
    · obtain ⟨_, k, k1, k2, k3⟩ := hg h; omega
    · have := h4 h; omega
  simp only [b3, hn]
  obtain ⟨l', e', out, ok, q0, q1, q2⟩ := ref_some K (by omega) (fun (d1 : List Int) (d3 : Int) (b4 : List S28) (c3 : Bool) => (lt (fun (g3 : Bool) => (if g3 = true then (some (([] : List S28), (20 : Int))) else (some (b4, 0)))) fun g8 => (if d3 = 0 then (if (d1.length : Int) > 0 then (g8 true) else (g8 (!(c3)))) else (g8 true)))) n hT 3000 K n 0 a1.1 a1.2.1 [] true (by omega) h2 (by omega) (fun _ => by omega) (by omega) (by omega) (by simp)
  rw [show ((0 : Nat) : Int) = 0 from rfl] at q2
  simp only [lt] at q2 ⊢
  rw [q2]
  by_cases he : e' = 0
  · rw [if_pos he]
    by_cases hl' : (l'.length : Int) > 0
    · rw [if_pos hl', if_pos trivial]; exact ⟨_, rfl, Or.inl rfl⟩
    · rw [if_neg hl']
      cases ok with
      | false => exact ⟨_, rfl, Or.inl rfl⟩
      | true =>
        obtain ⟨_, evs, k1, k2, k3, k4⟩ := q1 he rfl
        have hnil : l' = [] := List.length_eq_zero_iff.1 (by omega)
        obtain ⟨_, k, m1, m2, m3⟩ := hg (q0 he)
        refine ⟨_, rfl, Or.inr ⟨out, rfl, ?_⟩⟩
        rw [List.nil_append] at k1
        rw [k1]
        refine ⟨?_, k4⟩
        have hk : k = evs.length := by omega
        rw [m2, k2, hnil, List.append_nil, hk]
  · rw [if_neg he, if_pos trivial]; exact ⟨_, rfl, Or.inl rfl⟩
theorem ref_good (K : Nat) (hK : 5000 ≤ K) (b : List Int) (hB : IsB b) (hl : b.length ≤ 1900) (l : List S28) (h : Good b l) : confidantref21_EventsRead.f K b = some (l, 0) := by
  obtain ⟨k1, k2⟩ := h.len hl
  have hb := h.1
  unfold confidantref21_EventsRead.f
  rw [rnum_look K b 0 _ (by omega) hB (by omega)]
  have hl0 : lookN b 0 2147483648 = (body l, 0, (l.length : Int)) := by rw [hb]; exact look_one l.length _ (body l) (by omega) (by omega)
  rw [hl0]
  simp only [lt, b3]
  have hp := ref_back K (by omega) (fun (d1 : List Int) (d3 : Int) (b4 : List S28) (c3 : Bool) => (if d3 = 0 then (if (d1.length : Int) > 0 then (if true = true then (some (([] : List S28), (20 : Int))) else (some (b4, 0))) else (if (!(c3)) = true then (some (([] : List S28), (20 : Int))) else (some (b4, 0)))) else (if true = true then (some (([] : List S28), (20 : Int))) else (some (b4, 0))))) l.length (by omega) [] IsB.nil l K 0 [] (by omega) h.2 (by rw [List.append_nil]; omega) (by omega) (by simp; omega)
  rw [List.append_nil, List.nil_append] at hp
  refine hp.trans ?_
  rfl
/-- both read the same -/
theorem reads_same (K : Nat) (hK : 5000 ≤ K) (hK2 : K ≤ 8000) (b : List Int) (hB : IsB b) (hl : b.length ≤ 1900) : ∃ (l : List S28) (e : Int), trace_Read.f K b = some (l, e) ∧ confidantref21_EventsRead.f K b = some (l, e) ∧ l.length ≤ 1900 := by
  by_cases h : ∃ l, Good b l
  · obtain ⟨l, h⟩ := h
    exact ⟨l, 0, read_good K hK b hB hl l h, ref_good K hK b hB hl l h, (h.len hl).1⟩
  · obtain ⟨r, h1, h2⟩ := read_some K hK hK2 b hB hl
    obtain ⟨s, g1, g2⟩ := ref_read K hK b hB hl
    rcases h2 with rfl | ⟨l, _, hg⟩
    · rcases g2 with rfl | ⟨l, _, hg⟩
      · exact ⟨[], 20, h1, g1, by simp⟩
      · exact absurd ⟨l, hg⟩ h
    · exact absurd ⟨l, hg⟩ h
/-! ### the document's bytes -/
theorem eput_l (K : Nat) (hK : 100 ≤ K) (l : List S28) (hl : l.length ≤ 1000) (hs : ∀ e ∈ l, Rt e ∧ Sm e) (A : List Int) (hA : A.length ≤ 100) : ∀ (d n i : Nat), i + d = l.length → d < n →
    confidantref21_EventsPut.l0 K l n (A ++ body (l.take i)) (i : Int) = some (A ++ body l) := by
  intro d
  induction d with
  | zero =>
    intro n i hd hn
    obtain ⟨n, rfl⟩ : ∃ k, n = k + 1 := ⟨n - 1, by omega⟩
    rw [confidantref21_EventsPut.l0.eq_2, if_neg (by omega), List.take_of_length_le (by omega)]
  | succ d ih =>
    intro n i hd hn
    obtain ⟨n, rfl⟩ : ∃ k, n = k + 1 := ⟨n - 1, by omega⟩
    have hi : i < l.length := by omega
    have hw : IntKind.i64.wrap ((i : Int) + 1) = ((i + 1 : Nat) : Int) := by rw [w64_id (by omega) (by omega)]; omega
    obtain ⟨hr, hsm⟩ : Rt (l.getD i zS28) ∧ Sm (l.getD i zS28) := by
      rw [List.getD_eq_getElem?_getD, List.getElem?_eq_getElem hi]
      exact hs _ (List.getElem_mem hi)
    rw [confidantref21_EventsPut.l0.eq_2, if_pos (by omega), if_pos (by omega)]
    unfold confidantref1_Int.f
    simp only [Int.toNat_natCast, hw, eright_f, b1, lt]
    rw [if_pos (decide_eq_true hr), row_f _ hr hsm, rput_f K (ns (l.getD i zS28)) (ns_u _ hr hsm) (by show 7 ≤ 10000; omega) (by omega) (by show 7 < K; omega)]
    simp only
    have h1 := body_len (l.take i)
    have h2 := encs_len (ns (l.getD i zS28))
    have h3 : (ns (l.getD i zS28)).length = 7 := rfl
    have h4 : (l.take i).length ≤ l.length := by rw [List.length_take]; omega
    rw [if_pos (by rw [List.length_append]; omega), List.append_assoc, ← body_take l i hi]
    exact ih n (i + 1) (by omega) (by omega)
theorem eput_f (K : Nat) (hK : 5000 ≤ K) (l : List S28) (hl : l.length ≤ 1000) (hs : ∀ e ∈ l, Rt e ∧ Sm e) : confidantref21_EventsPut.f K l = some (enc l.length ++ body l) := by
  unfold confidantref21_EventsPut.f
  have h1 : ([IntKind.u64.wrap (l.length : Int)] : List Int) = ints [l.length] := by rw [wu64_id (by omega) (by omega)]; rfl
  simp only [lt, h1]
  rw [rput_f K [l.length] (fun n hn => by have := List.mem_singleton.1 hn; omega) (by show 1 ≤ 10000; omega) (by omega) (by show 1 < K; omega)]
  simp only [b1]
  have he : encs [l.length] = enc l.length ++ body (l.take 0) := by unfold encs encs body; simp
  rw [he]
  exact eput_l K (by omega) l hl hs (enc l.length) (by have := enc_len l.length; omega) l.length K 0 (by omega) (by omega)

/-! ### the law -/
theorem reads_l (K : Nat) (hK : 5000 ≤ K) (hK2 : K ≤ 8000) (bs : List (List Int)) (hbs : bs.length ≤ 100) (h : ∀ b ∈ bs, IsB b ∧ b.length ≤ 1900) (g : List (List Int) → Option Bool) : ∀ (d n i : Nat), i + d = bs.length → d < n → confidantlaw23_TraceReads.l0 K bs g n (i : Int) = g bs := by
  intro d
  induction d with
  | zero =>
    intro n i hd hn
    obtain ⟨n, rfl⟩ : ∃ k, n = k + 1 := ⟨n - 1, by omega⟩
    rw [confidantlaw23_TraceReads.l0.eq_2, if_neg (by omega)]
  | succ d ih =>
    intro n i hd hn
    obtain ⟨n, rfl⟩ : ∃ k, n = k + 1 := ⟨n - 1, by omega⟩
    have hi : i < bs.length := by omega
    have hw : IntKind.i64.wrap ((i : Int) + 1) = ((i + 1 : Nat) : Int) := by rw [w64_id (by omega) (by omega)]; omega
    obtain ⟨hB, hl⟩ : IsB (bs.getD i []) ∧ (bs.getD i []).length ≤ 1900 := by
      rw [List.getD_eq_getElem?_getD, List.getElem?_eq_getElem hi]
      exact h _ (List.getElem_mem hi)
    obtain ⟨l, e, h1, h2, h3⟩ := reads_same K hK hK2 _ hB hl
    rw [confidantlaw23_TraceReads.l0.eq_2, if_pos (by omega), if_pos (by omega), Int.toNat_natCast, hw, h1, h2]
    simp only [b2, lt]
    rw [if_pos trivial, same_f' K (by omega) l (by omega)]
    exact ih n (i + 1) (by omega) (by omega)
theorem TraceReads : confidantlaw23_TraceReads.Pure := by
  intro raw l k v more hraw hraw2 hl hl2 hk hv hm hm2
  obtain ⟨K, hK, hK2, hkn⟩ := known_r
  refine ⟨K, ?_⟩
  unfold confidantlaw23_TraceReads.f
  rw [hkn]
  simp only [b1]
  rw [if_pos trivial]
  simp only [lt]
  by_cases c1 : (raw.length : Int) > 80
  · rw [if_pos c1, if_pos trivial]
  rw [if_neg c1]
  by_cases c2 : (l.length : Int) > 20
  · rw [if_pos c2, if_pos trivial]
  rw [if_neg c2]
  by_cases c3 : (more.length : Int) > 8
  · rw [decide_eq_true c3, if_pos rfl]
  rw [decide_eq_false c3, if_neg (by simp), some_f K (by omega) l (by omega)]
  have hx : ∀ x ∈ l.map sm, Rt x ∧ Sm x := by
    intro x hx
    obtain ⟨z, hz, rfl⟩ := List.mem_map.1 hx
    obtain ⟨o0, o1, o2, o3, _⟩ := hl2 z hz
    exact sm_rt z ⟨is_u8 o0, is_u8 o1, is_u8 o2, is_u8 o3⟩
  have hlen : (l.map sm).length ≤ 20 := by rw [List.length_map]; omega
  generalize l.map sm = x at hx hlen
  simp only
  rw [eput_f K hK x (by omega) hx]
  have hbl := body_len x
  have hel := enc_len x.length
  have hep := enc_pos x.length
  have hp := tput_f K (by omega) x (by omega) (by omega) (fun z hz => (hx z hz).2)
  rw [if_pos (all_of hx)] at hp
  have hB : IsB (enc x.length ++ body x) := (enc_B _).app (body_B _)
  have hlb : (enc x.length ++ body x).length ≤ 1600 ∧ 0 < (enc x.length ++ body x).length := by rw [List.length_append]; omega
  have hgood : Good (enc x.length ++ body x) x := ⟨rfl, hx⟩
  generalize enc x.length ++ body x = b at *
  have uk := is_u16 hk
  have hwk : IntKind.i64.wrap k = k := w64_id (by omega) (by omega)
  have hmod : 0 ≤ Int.tmod k (b.length : Int) ∧ Int.tmod k (b.length : Int) < (b.length : Int) := by
    rw [Int.tmod_eq_emod_of_nonneg uk.1]
    exact ⟨Int.emod_nonneg _ (by omega), Int.emod_lt_of_pos _ (by omega)⟩
  have hml : more.length ≤ 8 := by omega
  have hBm : IsB more := IsB.of hm2
  have hBr : IsB raw := IsB.of hraw2
  simp only [List.nil_append, List.length_nil, Nat.zero_add, hwk]
  rw [if_pos (by omega), if_neg (by omega), if_pos hmod.1, if_pos hmod.2, if_neg (by omega), if_pos hmod.1, if_pos (by omega), if_pos (by omega), if_pos (by omega)]
  have hBx : ∀ p q : Int, ∃ c : Nat, bX .u8 p q = (c : Int) ∧ c < 256 := fun p q => by
    unfold bX
    generalize ((BitVec.ofInt IntKind.u8.bits p ^^^ BitVec.ofInt IntKind.u8.bits q).toNat : Int) = m
    rw [wu8]
    exact ⟨(m % 256).toNat, by omega, by omega⟩
  refine Eq.trans (reads_l K hK hK2 _ (by simp) ?_ _ 5 K 0 (by simp) (by omega)) ?_
  · intro z hz
    simp only [List.mem_cons, List.not_mem_nil, or_false] at hz
    rcases hz with rfl | rfl | rfl | rfl | rfl
    · exact ⟨hBr, by omega⟩
    · exact ⟨hB, by omega⟩
    · refine ⟨fun y hy => ?_, by rw [List.length_set]; omega⟩
      rcases List.mem_or_eq_of_mem_set hy with hy | rfl
      · exact hB y hy
      · exact hBx _ _
    · exact ⟨hB.take _, by rw [List.length_take]; omega⟩
    · exact ⟨hB.app hBm, by rw [List.length_append]; omega⟩
  · rw [hp]
    simp only
    rw [read_good K hK b hB (by omega) x hgood]
    simp only [b2]
    rw [if_pos trivial, same_f' K (by omega) x (by omega)]
end Go.Proofs.YtocdpimpkifdmaaDoor.Pure
