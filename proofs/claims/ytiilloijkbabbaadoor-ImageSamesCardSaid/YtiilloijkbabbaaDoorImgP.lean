import Derived.Test.YtiilloijkbabbaaDoorG0
import Derived.Test.YtiilloijkbabbaaDoorInsP
import Derived.Test.YtiilloijkbabbaaDoorLns
/- Images: their lines read, their bytes. Conditions: in the lemmas. -/
set_option linter.unusedVariables false
set_option linter.unusedSimpArgs false
namespace Go.Proofs.YtiilloijkbabbaaDoor.Img
open Go Go.Fw Go.RowKit Go.Proofs.YtiilloijkbabbaaDoor.G Go.Proofs.YtiilloijkbabbaaDoor.Pack Go.Proofs.YtiilloijkbabbaaDoor.Txt Go.Proofs.YtiilloijkbabbaaDoor.Ins Go.Proofs.YtiilloijkbabbaaDoor.Lns

/-! ### a line -/
def parseT (s : ByteArray) : Option (Int × Int) := match instr_Parse.f 100 s with
  | some (op, a, true) => some (op, a)
  | _ => none
theorem parse_t (K : Nat) (hK : 27 ≤ K) (s : ByteArray) (hs : s.size < 4294967281) :
    (∃ op a, parseT s = some (op, a) ∧ i32r a ∧ Rt op a ∧ textL op a = s ∧ instr_Parse.f K s = some (op, a, true)) ∨ (parseT s = none ∧ (∀ op a, i32r a → Rt op a → textL op a ≠ s) ∧ instr_Parse.f K s = some (0, 0, false)) := by
  unfold parseT
  rcases parse_f K hK s hs with ⟨op, a, h1, h2, h3, h4⟩ | ⟨h1, h2⟩ <;> rcases parse_f 100 (by omega) s hs with ⟨p, b, g1, g2, g3, g4⟩ | ⟨g1, g2⟩
  · obtain ⟨e1, e2⟩ := text_inj op a p b h2 g2 (h3.trans g3.symm)
    subst e1 e2
    rw [g4]
    exact .inl ⟨_, _, rfl, h1, h2, h3, h4⟩
  · exact absurd h3 (g1 op a h1 h2)
  · exact absurd g3 (h1 p b g1 g2)
  · rw [g2]
    exact .inr ⟨rfl, h1, h2⟩
theorem parseT_text (op a : Int) (h : Rt op a) (ha : i32r a) : parseT (textL op a) = some (op, a) := by
  unfold parseT
  rw [parse_text 100 (by omega) op a ha h]
abbrev Im := List (List S27)
def funcL : List UInt8 := [102, 117, 110, 99]
def stp (m : Im) (x : ByteArray) : Im × Int :=
  if x.data.toList = [] then (m, 0) else if x.data.toList = funcL then (if m.length = 64 then (m, 22) else (m ++ [[]], 0)) else match parseT x with
  | none => (m, 24)
  | some (op, a) => if m.length = 0 then (m, 24) else if (m.getD (m.length - 1) []).length = 512 then (m, 22) else (m.set (m.length - 1) (m.getD (m.length - 1) [] ++ [⟨op, a⟩]), 0)
def run : Im → Nat → List ByteArray → Im × Int × Int
  | m, i, [] => (m, 0, 0)
  | m, i, x :: r => if (stp m x).2 = 0 then run (stp m x).1 (i + 1) r else ([], (i : Int), (stp m x).2)
def Wf (m : Im) : Prop := m.length ≤ 64 ∧ ∀ r ∈ m, r.length ≤ 512
instance (m : Im) : Decidable (Wf m) := by unfold Wf; infer_instance
theorem getD_mem {α : Type} (l : List α) (i : Nat) (z : α) (h : i < l.length) : l.getD i z ∈ l := by
  rw [List.getD_eq_getElem?_getD, List.getElem?_eq_getElem h]
  exact List.getElem_mem _
theorem stp_wf (m : Im) (x : ByteArray) (h : Wf m) : Wf (stp m x).1 := by
  unfold stp
  split
  · exact h
  · split
    · split
      · exact h
      · refine ⟨by have := h.1; simp; omega, fun r hr => ?_⟩
        rcases List.mem_append.1 hr with hr | hr
        · exact h.2 r hr
        · simp at hr; subst hr; simp
    · split
      · exact h
      · split
        · exact h
        · split
          · exact h
          · refine ⟨by rw [List.length_set]; exact h.1, fun r hr => ?_⟩
            rcases List.mem_or_eq_of_mem_set hr with hr | rfl
            · exact h.2 r hr
            · have := h.2 _ (getD_mem m (m.length - 1) [] (by omega))
              simp only [List.length_append, List.length_singleton]
              omega
theorem eqb_list (x : ByteArray) (l : Array UInt8) : (x.toList == (⟨l⟩ : ByteArray).toList) = decide (x.data.toList = l.toList) := by
  rw [ByteArray.toList_eq, ByteArray.toList_eq]
  by_cases h : x.data.toList = l.toList
  · rw [decide_eq_true h, beq_iff_eq]; exact h
  · rw [decide_eq_false h, beq_eq_false_iff_ne]; exact h
theorem parse_l (K : Nat) (hK : 100 ≤ K) (xs : List ByteArray) (hl : xs.length ≤ 1000000) (hx : ∀ x ∈ xs, x.size < 4294967281) : ∀ (d n i : Nat) (m : Im), i + d = xs.length → d < n → Wf m →
    image_Parse.l0 K xs (fun (_ : List ByteArray) (b : Im) => some (b, 0, 0)) n m (i : Int) = some (run m i (xs.drop i)) := by
  intro d
  induction d with
  | zero =>
    intro n i m hd hn hm
    obtain ⟨n, rfl⟩ : ∃ k, n = k + 1 := ⟨n - 1, by omega⟩
    rw [image_Parse.l0.eq_2, if_neg (by omega), List.drop_eq_nil_of_le (by omega)]
    rfl
  | succ d ih =>
    intro n i m hd hn hm
    obtain ⟨n, rfl⟩ : ∃ k, n = k + 1 := ⟨n - 1, by omega⟩
    have hw : IntKind.i64.wrap ((i : Int) + 1) = ((i + 1 : Nat) : Int) := by rw [w64_id (by omega) (by omega)]; omega
    have hrec := fun m' hm' => ih n (i + 1) m' (by omega) (by omega) hm'
    have hmem := getD_mem xs i ⟨#[]⟩ (by omega)
    have hsz := hx _ hmem
    have hdrop : xs.drop i = xs.getD i ⟨#[]⟩ :: xs.drop (i + 1) := by
      rw [List.drop_eq_getElem_cons (by omega), List.getD_eq_getElem?_getD, List.getElem?_eq_getElem (by omega)]
      rfl
    have hwm := hm.1
    have hl1 : IntKind.i64.wrap ((m.length : Int) - 1) = (m.length : Int) - 1 := w64_id (by omega) (by omega)
    have hsw := stp_wf m (xs.getD i ⟨#[]⟩) hm
    rw [image_Parse.l0.eq_2, if_pos (by omega), hw, Int.toNat_natCast, hdrop]
    show _ = some (if (stp m (xs.getD i ⟨#[]⟩)).2 = 0 then run (stp m (xs.getD i ⟨#[]⟩)).1 (i + 1) (xs.drop (i + 1)) else ([], (i : Int), (stp m (xs.getD i ⟨#[]⟩)).2))
    generalize xs.getD i ⟨#[]⟩ = x at *
    simp only [lt]
    rw [if_pos (show (0 : Int) ≤ (i : Int) by omega), eqb_list, eqb_list]
    unfold stp at hsw ⊢
    by_cases h0 : x.data.toList = []
    · rw [if_pos (decide_eq_true (show x.data.toList = (#[] : Array UInt8).toList from h0)), if_pos h0, if_pos rfl]
      exact hrec m hm
    · rw [if_neg (by rw [decide_eq_false (show ¬ x.data.toList = (#[] : Array UInt8).toList from h0)]; simp), if_neg h0]
      rw [if_neg h0] at hsw
      by_cases hf : x.data.toList = funcL
      · rw [if_pos (decide_eq_true (show x.data.toList = (#[102, 117, 110, 99] : Array UInt8).toList from hf)), if_pos hf]
        rw [if_pos hf] at hsw
        by_cases h64 : m.length = 64
        · rw [decide_eq_true (show (m.length : Int) = 64 by omega), if_pos rfl, if_pos h64, if_neg (by simp)]
        · rw [if_neg h64] at hsw
          rw [decide_eq_false (show ¬ (m.length : Int) = 64 by omega), if_neg (by simp), if_pos (decide_eq_true (show x.data.toList = (#[102, 117, 110, 99] : Array UInt8).toList from hf)), if_neg h64, if_pos (by simp; omega), if_pos rfl]
          exact hrec _ hsw
      · rw [if_neg (by rw [decide_eq_false (show ¬ x.data.toList = (#[102, 117, 110, 99] : Array UInt8).toList from hf)]; simp), if_neg hf]
        rw [if_neg hf] at hsw
        rw [if_neg (by simp), if_neg (by rw [decide_eq_false (show ¬ x.data.toList = (#[102, 117, 110, 99] : Array UInt8).toList from hf)]; simp)]
        rcases parse_t K (by omega) x hsz with ⟨op, a, p1, p2, p3, p4, p5⟩ | ⟨p1, p2, p3⟩
        · rw [p5, p1]
          rw [p1] at hsw
          simp only [b3] at hsw ⊢
          rw [if_pos trivial, hl1]
          by_cases hm0 : m.length = 0
          · rw [decide_eq_true (show (m.length : Int) - 1 < 0 by omega), if_pos rfl, if_pos hm0, if_neg (by simp)]
          · rw [if_neg hm0] at hsw
            have ht : ((m.length : Int) - 1).toNat = m.length - 1 := by omega
            rw [decide_eq_false (show ¬ (m.length : Int) - 1 < 0 by omega), if_neg (by simp), if_neg hm0, if_pos (by omega), if_pos (by omega), ht]
            have hlen := hm.2 _ (getD_mem m (m.length - 1) [] (by omega))
            by_cases h5 : (m.getD (m.length - 1) []).length = 512
            · rw [if_pos (by omega), if_pos h5, if_neg (by simp)]
            · rw [if_neg h5] at hsw
              rw [if_neg (by omega), if_neg h5, if_pos (by simp only [List.length_singleton]; omega), if_pos rfl]
              exact hrec _ hsw
        · rw [p3, p1]
          simp only [b3]
          rw [if_neg (by simp), if_pos trivial, if_neg (by simp)]
theorem parse_img (K : Nat) (hK : 100 ≤ K) (s : ByteArray) (hs : s.size + 1 < K) (hs2 : s.size ≤ 100000) : image_Parse.f K s = some (run [] 0 (splitL s ⟨#[10]⟩)) := by
  have hl := splitL_len s
  unfold image_Parse.f
  simp only [lt]
  rw [if_pos (by omega), if_pos (by decide)]
  have := parse_l K hK (splitL s ⟨#[10]⟩) (by omega) (fun x hx => by have := splitL_mem s x hx; omega) _ K 0 [] (Nat.zero_add _) (by omega) ⟨by simp, by intro r hr; cases hr⟩
  simpa using this
/-! ### bytes -/
def codeB (f : List S27) : List Int := (f.map fun x => encs (ns x.f0 x.f1)).flatten
def bodyB (m : Im) : List Int := (m.map fun f => enc f.length ++ codeB f).flatten
def rtC (f : List S27) : Prop := ∀ x ∈ f, Rt x.f0 x.f1
def rtI (m : Im) : Prop := ∀ f ∈ m, rtC f
instance (f : List S27) : Decidable (rtC f) := by unfold rtC; infer_instance
instance (m : Im) : Decidable (rtI m) := by unfold rtI; infer_instance
theorem rtC_cons (x : S27) (f : List S27) : rtC (x :: f) ↔ Rt x.f0 x.f1 ∧ rtC f := ⟨fun h => ⟨h _ (List.mem_cons_self ..), fun y hy => h y (List.mem_cons_of_mem _ hy)⟩, fun ⟨h1, h2⟩ y hy => (List.mem_cons.1 hy).elim (fun e => e ▸ h1) (h2 y)⟩
theorem rtI_cons (f : List S27) (m : Im) : rtI (f :: m) ↔ rtC f ∧ rtI m := ⟨fun h => ⟨h _ (List.mem_cons_self ..), fun y hy => h y (List.mem_cons_of_mem _ hy)⟩, fun ⟨h1, h2⟩ y hy => (List.mem_cons.1 hy).elim (fun e => e ▸ h1) (h2 y)⟩
theorem encs_small (op a : Int) : (encs (ns op a)).length ≤ 22 := by
  have := encs_len (ns op a)
  have := (ns_len op a).2
  omega
theorem codeB_len : ∀ f : List S27, (codeB f).length ≤ 22 * f.length
  | [] => by simp [codeB]
  | x :: f => by
    have ih := codeB_len f
    have h1 := encs_small x.f0 x.f1
    unfold codeB at ih ⊢
    simp only [List.map_cons, List.flatten_cons, List.length_append, List.length_cons]
    omega
theorem bodyB_len : ∀ m : Im, (∀ r ∈ m, r.length ≤ 512) → (bodyB m).length ≤ 11275 * m.length
  | [], _ => by simp [bodyB]
  | f :: m, h => by
    have ih := bodyB_len m (fun r hr => h r (List.mem_cons_of_mem _ hr))
    have h0 := h f (List.mem_cons_self ..)
    have h1 := codeB_len f
    have h2 := enc_len f.length
    unfold bodyB at ih ⊢
    simp only [List.map_cons, List.flatten_cons, List.length_append, List.length_cons]
    omega
theorem codeB_drop (f : List S27) (i : Nat) (h : i < f.length) : codeB (f.drop i) = encs (ns (f.getD i zS27).f0 (f.getD i zS27).f1) ++ codeB (f.drop (i + 1)) := by
  rw [List.drop_eq_getElem_cons h, List.getD_eq_getElem?_getD, List.getElem?_eq_getElem h]
  unfold codeB
  rw [List.map_cons, List.flatten_cons]
  rfl
theorem bodyB_drop (m : Im) (i : Nat) (h : i < m.length) : bodyB (m.drop i) = enc (m.getD i []).length ++ codeB (m.getD i []) ++ bodyB (m.drop (i + 1)) := by
  rw [List.drop_eq_getElem_cons h, List.getD_eq_getElem?_getD, List.getElem?_eq_getElem h]
  unfold bodyB
  rw [List.map_cons, List.flatten_cons]
  rfl
theorem getD_drop {α : Type} (l : List α) (i : Nat) (z : α) (h : i < l.length) : l.drop i = l.getD i z :: l.drop (i + 1) := by
  rw [List.drop_eq_getElem_cons h, List.getD_eq_getElem?_getD, List.getElem?_eq_getElem h]
  rfl
theorem put_l1 (K : Nat) (hK : 100 ≤ K) (m : Im) (i : Nat) (c1 : List Int → List Int → Option (List Int × Int)) (a9 : List Int) (hf : (m.getD i []).length ≤ 512) : ∀ (d n j : Nat) (out : List Int), j + d = (m.getD i []).length → d < n → out.length ≤ 1000000 + 22 * j →
    image_Put.l1 K m (i : Int) c1 a9 n out (j : Int) = if rtC ((m.getD i []).drop j) then c1 a9 (out ++ codeB ((m.getD i []).drop j)) else some ([], 24) := by
  intro d
  induction d with
  | zero =>
    intro n j out hd hn ho
    obtain ⟨n, rfl⟩ : ∃ k, n = k + 1 := ⟨n - 1, by omega⟩
    rw [image_Put.l1.eq_2, Int.toNat_natCast, if_neg (by omega), List.drop_eq_nil_of_le (by omega), if_pos (by intro x hx; cases hx)]
    simp [codeB]
  | succ d ih =>
    intro n j out hd hn ho
    obtain ⟨n, rfl⟩ : ∃ k, n = k + 1 := ⟨n - 1, by omega⟩
    have hw : IntKind.i64.wrap ((j : Int) + 1) = ((j + 1 : Nat) : Int) := by rw [w64_id (by omega) (by omega)]; omega
    rw [image_Put.l1.eq_2, Int.toNat_natCast, if_pos (by omega), if_pos (by omega), hw, Int.toNat_natCast, codeB_drop _ _ (by omega)]
    have hd2 := getD_drop (m.getD i []) j zS27 (by omega)
    rw [right_f, put_i K (by omega)]
    have hsm := encs_small ((m.getD i []).getD j zS27).f0 ((m.getD i []).getD j zS27).f1
    simp only [b1]
    by_cases h : Rt ((m.getD i []).getD j zS27).f0 ((m.getD i []).getD j zS27).f1
    · rw [decide_eq_true h, if_pos rfl, if_pos h, if_pos (by omega)]
      simp only [lt]
      rw [ih n (j + 1) _ (by omega) (by omega) (by rw [List.length_append]; omega), List.append_assoc]
      by_cases h2 : rtC ((m.getD i []).drop (j + 1))
      · rw [if_pos h2, if_pos (by rw [hd2]; exact (rtC_cons _ _).2 ⟨h, h2⟩)]
      · rw [if_neg h2, if_neg (by rw [hd2]; exact fun q => h2 ((rtC_cons _ _).1 q).2)]
    · rw [decide_eq_false h, if_neg (by simp), if_neg (by rw [hd2]; exact fun q => h ((rtC_cons _ _).1 q).1)]
theorem put_l0 (K : Nat) (hK : 1000 ≤ K) (m : Im) (hm : Wf m) : ∀ (d n i : Nat) (out : List Int), i + d = m.length → d < n → out.length ≤ 11 + 11275 * i →
    image_Put.l0 K m n out (i : Int) = if rtI (m.drop i) then some (out ++ bodyB (m.drop i), 0) else some ([], 24) := by
  intro d
  induction d with
  | zero =>
    intro n i out hd hn ho
    obtain ⟨n, rfl⟩ : ∃ k, n = k + 1 := ⟨n - 1, by omega⟩
    rw [image_Put.l0.eq_2, if_neg (by omega), List.drop_eq_nil_of_le (by omega), if_pos (by intro x hx; cases hx)]
    simp [bodyB]
  | succ d ih =>
    intro n i out hd hn ho
    obtain ⟨n, rfl⟩ : ∃ k, n = k + 1 := ⟨n - 1, by omega⟩
    have hw : IntKind.i64.wrap ((i : Int) + 1) = ((i + 1 : Nat) : Int) := by rw [w64_id (by have := hm.1; omega) (by have := hm.1; omega)]; omega
    have hf := hm.2 _ (getD_mem m i [] (by omega))
    have hm1 := hm.1
    have hp := put_f K [(m.getD i []).length] (by intro x hx; simp only [List.mem_cons, List.not_mem_nil, or_false] at hx; omega) (by simp) (by omega) (by simp; omega)
    have he := enc_len (m.getD i []).length
    have hc := codeB_len (m.getD i [])
    have hd2 := getD_drop m i [] (by omega)
    rw [image_Put.l0.eq_2, if_pos (by omega), hw, Int.toNat_natCast, bodyB_drop _ _ (by omega)]
    simp only [lt]
    rw [if_pos (show (0 : Int) ≤ (i : Int) by omega), wu64_id (x := ((m.getD i []).length : Int)) (by omega) (by omega), show ([((m.getD i []).length : Int)] : List Int) = ints [(m.getD i []).length] from rfl, hp]
    simp only [b1, encs, List.append_nil]
    rw [if_pos (by omega), show (0 : Int) = ((0 : Nat) : Int) from rfl, put_l1 K (by omega) m i _ _ hf (m.getD i []).length K 0 _ (by omega) (by omega) (by rw [List.length_append]; omega), List.drop_zero]
    by_cases h1 : rtC (m.getD i [])
    · rw [if_pos h1, ih n (i + 1) _ (by omega) (by omega) (by simp only [List.length_append]; omega)]
      by_cases h2 : rtI (m.drop (i + 1))
      · rw [if_pos h2, if_pos (by rw [hd2]; exact (rtI_cons _ _).2 ⟨h1, h2⟩)]
        simp only [List.append_assoc]
        rfl
      · rw [if_neg h2, if_neg (by rw [hd2]; exact fun q => h2 ((rtI_cons _ _).1 q).2)]
    · rw [if_neg h1, if_neg (by rw [hd2]; exact fun q => h1 ((rtI_cons _ _).1 q).1)]
theorem long_l (K : Nat) (m : Im) (hl : m.length ≤ 1000000) : ∀ (d n i : Nat), i + d = m.length → d < n → image_long.l0 K m (fun (a4 : Int) => some (decide (a4 ≥ 0))) n (i : Int) = some (decide (∃ r ∈ m.drop i, 512 < r.length)) := by
  intro d
  induction d with
  | zero =>
    intro n i hd hn
    obtain ⟨n, rfl⟩ : ∃ k, n = k + 1 := ⟨n - 1, by omega⟩
    rw [image_long.l0.eq_2, if_neg (by omega), List.drop_eq_nil_of_le (by omega)]
    simp
  | succ d ih =>
    intro n i hd hn
    obtain ⟨n, rfl⟩ : ∃ k, n = k + 1 := ⟨n - 1, by omega⟩
    have hw : IntKind.i64.wrap ((i : Int) + 1) = ((i + 1 : Nat) : Int) := by rw [w64_id (by omega) (by omega)]; omega
    have hd2 := getD_drop m i [] (by omega)
    rw [image_long.l0.eq_2, if_pos (by omega), if_pos (by omega), hw, Int.toNat_natCast, ih n (i + 1) (by omega) (by omega), hd2]
    unfold image_long_1.f
    simp only [b1]
    by_cases h : 512 < (m.getD i []).length
    · rw [if_pos (decide_eq_true (by omega)), decide_eq_true (by omega)]
      exact (congrArg some (decide_eq_true ⟨_, List.mem_cons_self .., h⟩)).symm
    · rw [if_neg (by rw [decide_eq_false (by omega)]; simp)]
      congr 1
      exact decide_eq_decide.2 ⟨fun ⟨r, h1, h2⟩ => ⟨r, List.mem_cons_of_mem _ h1, h2⟩, fun ⟨r, h1, h2⟩ => by
        rcases List.mem_cons.1 h1 with rfl | h1
        · exact absurd h2 h
        · exact ⟨r, h1, h2⟩⟩
theorem long_f (K : Nat) (m : Im) (hl : m.length < K) : image_long.f K m = some (decide (¬ Wf m)) := by
  unfold image_long.f
  by_cases h : (m.length : Int) > 64
  · rw [if_pos h, decide_eq_true (show ¬ Wf m from fun q => by have := q.1; omega)]
  · rw [if_neg h]
    simp only [lt]
    rw [show (0 : Int) = ((0 : Nat) : Int) from rfl]
    have := long_l K m (by omega) m.length K 0 (by omega) hl
    simp only [Int.natCast_zero] at this ⊢
    rw [this, List.drop_zero]
    congr 1
    refine decide_eq_decide.2 ⟨fun ⟨r, h1, h2⟩ q => by have := q.2 r h1; omega, fun q => ?_⟩
    refine Decidable.byContradiction fun n => q ⟨by omega, fun r hr => ?_⟩
    exact Decidable.byContradiction fun g => n ⟨r, hr, by omega⟩
theorem put_img (K : Nat) (hK : 1000 ≤ K) (m : Im) (hl : m.length < K) : image_Put.f K m = some (if ¬ Wf m then ([], 22) else if rtI m then (enc m.length ++ bodyB m, 0) else ([], 24)) := by
  unfold image_Put.f
  rw [long_f K m hl]
  simp only [b1, lt]
  by_cases h : Wf m
  · have h1 := h.1
    have hp := put_f K [m.length] (by intro x hx; simp only [List.mem_cons, List.not_mem_nil, or_false] at hx; omega) (by simp) (by omega) (by simp; omega)
    have he := enc_len m.length
    rw [if_neg (by simp [h]), if_neg (by simp [h]), wu64_id (x := (m.length : Int)) (by omega) (by omega), show ([(m.length : Int)] : List Int) = ints [m.length] from rfl, hp]
    simp only [encs, List.append_nil]
    rw [show (0 : Int) = ((0 : Nat) : Int) from rfl, put_l0 K hK m h m.length K 0 _ (by omega) hl (by omega), List.drop_zero]
    split <;> rfl
  · rw [if_pos (by simp [h]), if_pos h]
end Go.Proofs.YtiilloijkbabbaaDoor.Img
