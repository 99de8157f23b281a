import Derived.Test.YtocdpimpkifdmaaDoorTrace2
import Derived.Test.YtocdpimpkifdmaaDoorPack2
import Derived.Test.YtocdpimpkifdmaaDoorG6
/- Events that are unlike have unlike texts. No condition. -/
set_option linter.unusedVariables false
set_option linter.unusedSimpArgs false
namespace Go.Proofs.YtocdpimpkifdmaaDoor.Pure
open Go Go.Fw Go.RowKit Go.Proofs.YtocdpimpkifdmaaDoor.G Go.Proofs.YtocdpimpkifdmaaDoor.Pack Go.Proofs.YtocdpimpkifdmaaDoor.Trace

theorem known_t : ∃ K, 5000 ≤ K ∧ confidantlaw23_known.f K = some true ∧ trace_names.f K = some NM := ⟨5000, Nat.le_refl _, by kernel_rfl, by kernel_rfl⟩

/-! ### what stands between spaces -/
theorem cut_inj : ∀ {a b r s : List UInt8}, 32 ∉ a → 32 ∉ b → a ++ 32 :: r = b ++ 32 :: s → a = b ∧ r = s
  | [], [], r, s, _, _, h => by simpa using h
  | [], y :: b, r, s, _, hb, h => by
    simp only [List.nil_append, List.cons_append, List.cons.injEq] at h
    exact absurd (by rw [h.1]; exact List.mem_cons_self ..) hb
  | x :: a, [], r, s, ha, _, h => by
    simp only [List.nil_append, List.cons_append, List.cons.injEq] at h
    exact absurd (by rw [← h.1]; exact List.mem_cons_self ..) ha
  | x :: a, y :: b, r, s, ha, hb, h => by
    simp only [List.cons_append, List.cons.injEq] at h
    obtain ⟨h1, h2⟩ := cut_inj (fun q => ha (List.mem_cons_of_mem _ q)) (fun q => hb (List.mem_cons_of_mem _ q)) h.2
    exact ⟨by rw [h.1, h1], h2⟩
theorem join_inj : ∀ (xs ys : List (List UInt8)), xs.length = ys.length → (∀ x ∈ xs, 32 ∉ x) → (∀ y ∈ ys, 32 ∉ y) → Lib.join xs [32] = Lib.join ys [32] → xs = ys
  | [], [], _, _, _, _ => rfl
  | [x], [y], _, _, _, h => by rw [Lib.join_one, Lib.join_one] at h; rw [h]
  | x :: x2 :: xs, y :: y2 :: ys, hl, hx, hy, h => by
    have e : ∀ (a b : List UInt8) (l : List (List UInt8)), Lib.join (a :: b :: l) [32] = a ++ 32 :: Lib.join (b :: l) [32] := fun a b l => by
      unfold Lib.join
      rw [List.intercalate_cons_cons]
      simp
    rw [e, e] at h
    obtain ⟨h1, h2⟩ := cut_inj (hx x (List.mem_cons_self ..)) (hy y (List.mem_cons_self ..)) h
    rw [h1, join_inj (x2 :: xs) (y2 :: ys) (by simpa using hl) (fun z hz => hx z (List.mem_cons_of_mem _ hz)) (fun z hz => hy z (List.mem_cons_of_mem _ hz)) h2]
  | [], _ :: _, hl, _, _, _ => by simp at hl
  | _ :: _, [], hl, _, _, _ => by simp at hl
  | [_], _ :: _ :: _, hl, _, _, _ => by simp at hl
  | _ :: _ :: _, [_], hl, _, _, _ => by simp at hl
/-! ### numbers as texts -/
theorem dec_spec : ∀ (u : Nat), (∀ b ∈ Lib.decDigits u, 48 ≤ b.toNat ∧ b.toNat ≤ 57) ∧ (Lib.decDigits u).foldl (fun a b => 10 * a + (b.toNat - 48)) 0 = u := by
  intro u
  induction u using Nat.strongRecOn with
  | _ u ih =>
    have one : ∀ k, k < 10 → (UInt8.ofNat (48 + k)).toNat = 48 + k := fun k hk => by rw [UInt8.toNat_ofNat']; omega
    rw [Lib.decDigits]
    by_cases h : u < 10
    · rw [dif_pos h]
      refine ⟨fun b hb => ?_, ?_⟩
      · rw [List.mem_singleton.1 hb, one u h]; omega
      · simp only [List.foldl_cons, List.foldl_nil, one u h]; omega
    · rw [dif_neg h]
      obtain ⟨h1, h2⟩ := ih (u / 10) (by omega)
      refine ⟨fun b hb => ?_, ?_⟩
      · rcases List.mem_append.1 hb with hb | hb
        · exact h1 b hb
        · rw [List.mem_singleton.1 hb, one (u % 10) (by omega)]; omega
      · rw [List.foldl_append, h2]
        simp only [List.foldl_cons, List.foldl_nil, one (u % 10) (by omega)]
        omega
theorem dec_inj {u v : Nat} (h : Lib.decDigits u = Lib.decDigits v) : u = v := by rw [← (dec_spec u).2, ← (dec_spec v).2, h]
theorem dec_ne (u : Nat) : Lib.decDigits u ≠ [] := fun h => by
  have := Lib.decDigits_length u
  have := Lib.nDigits_pos u
  rw [h] at *
  simp at *
  omega
theorem itoa_sp (n : Int) : (32 : UInt8) ∉ Lib.itoa n := by
  have d : ∀ u, (32 : UInt8) ∉ Lib.decDigits u := fun u h => by
    have := (dec_spec u).1 32 h
    have e : (32 : UInt8).toNat = 32 := rfl
    omega
  unfold Lib.itoa
  split
  · intro h
    rcases List.mem_cons.1 h with h | h
    · exact absurd h (by decide)
    · exact d _ h
  · exact d _
theorem itoa_inj {n m : Int} (h : Lib.itoa n = Lib.itoa m) : n = m := by
  have no : ∀ u v : Nat, ¬ (45 :: Lib.decDigits u = Lib.decDigits v) := fun u v q => by
    have := (dec_spec v).1 45 (by rw [← q]; exact List.mem_cons_self ..)
    have e : (45 : UInt8).toNat = 45 := rfl
    omega
  unfold Lib.itoa at h
  by_cases hn : n < 0
  · rw [if_pos hn] at h
    by_cases hm : m < 0
    · rw [if_pos hm] at h
      have := dec_inj (List.cons.inj h).2
      omega
    · rw [if_neg hm] at h
      exact absurd h (no _ _)
  · rw [if_neg hn] at h
    by_cases hm : m < 0
    · rw [if_pos hm] at h
      exact absurd h.symm (no _ _)
    · rw [if_neg hm] at h
      have := dec_inj h
      omega
theorem nm_sp : ∀ i : Fin 11, (32 : UInt8) ∉ (sget NM ((i : Nat) + 1 : Int)).data.toList := by decide +kernel
theorem nm_inj : ∀ i j : Fin 11, (sget NM ((i : Nat) + 1 : Int)).data.toList = (sget NM ((j : Nat) + 1 : Int)).data.toList → i = j := by decide +kernel
theorem fin_of (x : Int) (h : 1 ≤ x ∧ x ≤ 11) : ∃ i : Fin 11, x = (i : Nat) + 1 := ⟨⟨(x - 1).toNat, by omega⟩, by show x = (((x - 1).toNat : Nat) : Int) + 1; omega⟩
/-! ### the texts, the bytes -/
theorem text_inj (x y : S28) (hx : Rt x) (hy : Rt y) (h : textL x = textL y) : x = y := by
  have h' : Lib.join ((textRow x).map (·.data.toList)) [32] = Lib.join ((textRow y).map (·.data.toList)) [32] := by
    unfold textL joinL at h
    have := congrArg (fun b : ByteArray => b.data.toList) h
    simpa using this
  obtain ⟨i, hi⟩ := fin_of x.f2 hx.2.2.1
  obtain ⟨j, hj⟩ := fin_of y.f2 hy.2.2.1
  have sp : ∀ (z : S28) (k : Fin 11), z.f2 = (k : Nat) + 1 → ∀ l ∈ (textRow z).map (·.data.toList), (32 : UInt8) ∉ l := by
    intro z k hk l hl
    unfold textRow at hl
    simp only [List.map_cons, List.map_nil, List.mem_cons, List.not_mem_nil, or_false, itoaL, List.toList_toArray] at hl
    rcases hl with rfl | rfl | rfl | rfl | rfl | rfl | rfl
    · exact itoa_sp _
    · exact itoa_sp _
    · rw [hk]; exact nm_sp k
    · exact itoa_sp _
    · exact itoa_sp _
    · exact itoa_sp _
    · exact itoa_sp _
  have e := join_inj _ _ (by unfold textRow; simp) (sp x i hi) (sp y j hj) h'
  unfold textRow at e
  simp only [List.map_cons, List.map_nil, itoaL, List.cons.injEq, and_true] at e
  obtain ⟨e0, e1, e2, e3, e4, e5, e6⟩ := e
  rw [hi, hj] at e2
  have e2' := nm_inj i j e2
  have q2 : x.f2 = y.f2 := by rw [hi, hj, e2']
  have q0 := itoa_inj e0
  have q1 := itoa_inj e1
  have q3 := itoa_inj e3
  have q4 := itoa_inj e4
  have q5 := itoa_inj e5
  have q6 := itoa_inj e6
  clear e0 e1 e3 e4 e5 e6 h h' sp hi hj hx hy
  obtain ⟨x0, x1, x2, x3, x4, x5, x6⟩ := x
  obtain ⟨y0, y1, y2, y3, y4, y5, y6⟩ := y
  simp only at q0 q1 q2 q3 q4 q5 q6
  rw [q0, q1, q2, q3, q4, q5, q6]
theorem body_one (x : S28) : body [x] = encs (ns x) := by unfold body; simp
theorem put_inj (x y : S28) (hx : Rt x) (hy : Rt y) (sx : Sm x) (sy : Sm y) (h : enc 1 ++ body [x] = enc 1 ++ body [y]) : x = y := by
  have h2 : encs (ns x) ++ [] = encs (ns y) ++ [] := by
    rw [List.append_nil, List.append_nil, ← body_one, ← body_one]
    exact List.append_cancel_left h
  obtain ⟨e, _⟩ := encs_inj (by rfl) (ns_u x hx sx) (ns_u y hy sy) h2
  unfold ns u32n at e
  simp only [List.cons.injEq, and_true] at e
  obtain ⟨h0, h1, h3, h4, h5⟩ := hx
  obtain ⟨g0, g1, g3, g4, g5⟩ := hy
  obtain ⟨s4, s5, s6⟩ := sx
  obtain ⟨t4, t5, t6⟩ := sy
  unfold i32r at *
  obtain ⟨x0, x1, x2, x3, x4, x5, x6⟩ := x
  obtain ⟨y0, y1, y2, y3, y4, y5, y6⟩ := y
  simp only at *
  have q0 : x0 = y0 := by omega
  have q1 : x1 = y1 := by omega
  have q2 : x2 = y2 := by omega
  have q3 : x3 = y3 := by omega
  have q4 : x4 = y4 := by omega
  have q5 : x5 = y5 := by omega
  have q6 : x6 = y6 := by omega
  rw [q0, q1, q2, q3, q4, q5, q6]
theorem eqb (x y : S28) : ((x.f0 == y.f0) && ((x.f1 == y.f1) && ((x.f2 == y.f2) && ((x.f3 == y.f3) && ((x.f4 == y.f4) && ((x.f5 == y.f5) && ((x.f6 == y.f6) && true))))))) = decide (x = y) := by
  by_cases h : x = y
  · subst h; simp
  · rw [decide_eq_false h]
    obtain ⟨x0, x1, x2, x3, x4, x5, x6⟩ := x
    obtain ⟨y0, y1, y2, y3, y4, y5, y6⟩ := y
    rw [← Bool.not_eq_true]
    intro q
    simp only [Bool.and_eq_true, beq_iff_eq, and_true] at q
    exact h (by rw [q.1, q.2.1, q.2.2.1, q.2.2.2.1, q.2.2.2.2.1, q.2.2.2.2.2.1, q.2.2.2.2.2.2])
theorem body_B (l : List S28) : IsB (body l) := by
  intro x hx
  unfold body at hx
  obtain ⟨z, hz, hxz⟩ := List.mem_flatten.1 hx
  obtain ⟨e, _, rfl⟩ := List.mem_map.1 hz
  exact encs_B _ x hxz
theorem tail_t (K : Nat) (hK : 5000 ≤ K) (hnm : trace_names.f K = some NM) (x y : S28) (hx : Rt x) (hy : Rt y) (sx : Sm x) (sy : Sm y) : (b1 (trace_Text.f K x) fun (c0 : ByteArray) => (b1 (trace_Text.f K y) fun (c1 : ByteArray) => (if ((c0.toList == c1.toList) == ((x.f0 == y.f0) && ((x.f1 == y.f1) && ((x.f2 == y.f2) && ((x.f3 == y.f3) && ((x.f4 == y.f4) && ((x.f5 == y.f5) && ((x.f6 == y.f6) && true)))))))) = true then (lt ([x] : List S28) fun a7 => (b1 (trace_Put.f K a7) fun (a1 : List Int) => (lt ([y] : List S28) fun a6 => (b1 (trace_Put.f K a6) fun (a2 : List Int) => (if (((bStr a1).toList == (bStr a2).toList) == ((x.f0 == y.f0) && ((x.f1 == y.f1) && ((x.f2 == y.f2) && ((x.f3 == y.f3) && ((x.f4 == y.f4) && ((x.f5 == y.f5) && ((x.f6 == y.f6) && true)))))))) = true then (b1 (trace_Text.f K x) fun (a8 : ByteArray) => (some (decide ((a8.size : Int) > 14)))) else (some false)))))) else (some false)))) = some true := by
  have px := tput_f K (by omega) [x] (by simp) (by show 1 < K; omega) (fun z hz => List.mem_singleton.1 hz ▸ sx)
  have py := tput_f K (by omega) [y] (by simp) (by show 1 < K; omega) (fun z hz => List.mem_singleton.1 hz ▸ sy)
  rw [if_pos (by unfold all; simp [hx])] at px
  rw [if_pos (by unfold all; simp [hy])] at py
  rw [text_f K (by omega) hnm x sx, text_f K (by omega) hnm y sy, if_pos hx, if_pos hy]
  simp only [b1, lt, px, py, eqb]
  have ht : ((textL x).toList == (textL y).toList) = decide (x = y) := by
    by_cases h : x = y
    · rw [h, decide_eq_true rfl]; exact beq_self_eq_true _
    · rw [decide_eq_false h, beq_eq_false_iff_ne]
      intro q
      rw [Lib.toList_data, Lib.toList_data] at q
      exact h (text_inj x y hx hy (WideShapes.bytes_inj q))
  have hp : ((bStr (enc [x].length ++ body [x])).toList == (bStr (enc [y].length ++ body [y])).toList) = decide (x = y) := by
    rw [bStr_eq ((enc_B _).app (body_B _)) ((enc_B _).app (body_B _))]
    exact decide_eq_decide.2 ⟨fun q => put_inj x y hx hy sx sy q, fun q => by rw [q]⟩
  rw [ht, hp, if_pos (beq_self_eq_true _), if_pos (beq_self_eq_true _), decide_eq_true (by have := text_size x hx sx; omega)]
theorem TraceTexts : confidantlaw23_TraceTexts.Pure := by
  intro a0 a1 a2 a3 b0 b1' b2' b3' n ha0 ha1 ha2 ha3 hb0 hb1 hb2 hb3 hn
  obtain ⟨K, hK, hk, hnm⟩ := known_t
  refine ⟨K, ?_⟩
  unfold confidantlaw23_TraceTexts.f
  rw [hk]
  simp only [b1]
  rw [if_pos trivial]
  simp only [lt]
  rw [some_f K (by omega) _ (by simp)]
  have u := is_i32 hn
  obtain ⟨rx, sx⟩ := sm_rt ⟨a0, a1, a2, a3⟩ ⟨is_u8 ha0, is_u8 ha1, is_u8 ha2, is_u8 ha3⟩
  obtain ⟨ry, sy⟩ := sm_rt ⟨b0, b1', b2', b3'⟩ ⟨is_u8 hb0, is_u8 hb1, is_u8 hb2, is_u8 hb3⟩
  simp only [List.map_cons, List.map_nil]
  rw [if_pos (by simp), if_pos (by simp)]
  have e0 : ([sm ⟨a0, a1, a2, a3⟩, sm ⟨b0, b1', b2', b3'⟩] : List S28).getD (0 : Int).toNat zS28 = sm ⟨a0, a1, a2, a3⟩ := rfl
  have e1 : ([sm ⟨a0, a1, a2, a3⟩, sm ⟨b0, b1', b2', b3'⟩] : List S28).getD (1 : Int).toNat zS28 = sm ⟨b0, b1', b2', b3'⟩ := rfl
  rw [e0, e1]
  generalize sm ⟨a0, a1, a2, a3⟩ = x at rx sx ⊢
  generalize sm ⟨b0, b1', b2', b3'⟩ = y at ry sy ⊢
  exact tail_t K hK hnm { x with f5 := n } y rx ry ⟨sx.1, (show i32r n from ⟨by omega, by omega⟩), sx.2.2⟩ sy
end Go.Proofs.YtocdpimpkifdmaaDoor.Pure
