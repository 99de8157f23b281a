import Derived.Test.YtiilloijkbabbaaDoorG0
import Derived.Test.YtiilloijkbabbaaDoorG1
import Derived.Test.YtiilloijkbabbaaDoorImgL
import Derived.Test.YtiilloijkbabbaaDoorImgT
/- Images: sameness, bytes and texts read back. Conditions: in the lemmas. -/
set_option linter.unusedVariables false
set_option linter.unusedSimpArgs false
namespace Go.Proofs.YtiilloijkbabbaaDoor.Img
open Go Go.Fw Go.RowKit Go.Proofs.YtiilloijkbabbaaDoor.G Go.Proofs.YtiilloijkbabbaaDoor.Pack Go.Proofs.YtiilloijkbabbaaDoor.Txt Go.Proofs.YtiilloijkbabbaaDoor.Ins Go.Proofs.YtiilloijkbabbaaDoor.Lns

theorem same_l0 (K : Nat) (a b : List S27) (hl : a.length ≤ 1000000) (hab : a.length = b.length) : ∀ (d n i : Nat), i + d = a.length → d < n → api_Instr.l0 K a b n (i : Int) = some (decide (a.drop i = b.drop i)) := by
  intro d
  induction d with
  | zero =>
    intro n i hd hn
    obtain ⟨n, rfl⟩ : ∃ k, n = k + 1 := ⟨n - 1, by omega⟩
    rw [api_Instr.l0.eq_2, if_neg (by omega), List.drop_eq_nil_of_le (by omega), List.drop_eq_nil_of_le (by omega)]
    rfl
  | succ d ih =>
    intro n i hd hn
    obtain ⟨n, rfl⟩ : ∃ k, n = k + 1 := ⟨n - 1, by omega⟩
    have hw : IntKind.i64.wrap ((i : Int) + 1) = ((i + 1 : Nat) : Int) := by rw [w64_id (by omega) (by omega)]; omega
    have h1 := getD_drop a i zS27 (by omega)
    have h2 := getD_drop b i zS27 (by omega)
    rw [api_Instr.l0.eq_2, if_pos (by omega), if_pos (by omega), if_pos (by omega), hw, Int.toNat_natCast, eqb2, ih n (i + 1) (by omega) (by omega), h1, h2]
    by_cases h : a.getD i zS27 = b.getD i zS27
    · rw [if_pos (decide_eq_true h)]
      congr 1
      exact decide_eq_decide.2 ⟨fun e => by rw [h, e], fun e => (List.cons.inj e).2⟩
    · rw [if_neg (by rw [decide_eq_false h]; simp), decide_eq_false (fun e => h (List.cons.inj e).1)]
theorem sameCode (K : Nat) (a b : List S27) (hl : a.length ≤ 1000000) (hK : a.length < K) : image_Same_1.f K a b = some (decide (a = b)) := by
  unfold image_Same_1.f api_Instr.f
  by_cases h : a.length = b.length
  · rw [if_pos (by omega)]
    have := same_l0 K a b hl h a.length K 0 (by omega) hK
    simp only [List.drop_zero] at this
    rw [show (0 : Int) = ((0 : Nat) : Int) from rfl, this]
    rfl
  · rw [if_neg (by omega), decide_eq_false (fun e => h (by rw [e]))]
    rfl
theorem sameI_l (K : Nat) (a b : Im) (hl : a.length ≤ 1000000) (hab : a.length = b.length) (hr : ∀ r ∈ a, r.length ≤ 1000000 ∧ r.length < K) : ∀ (d n i : Nat), i + d = a.length → d < n → image_Same.l0 K a b (fun (b0 : Bool) => some b0) n (i : Int) = some (decide (a.drop i = b.drop i)) := by
  intro d
  induction d with
  | zero =>
    intro n i hd hn
    obtain ⟨n, rfl⟩ : ∃ k, n = k + 1 := ⟨n - 1, by omega⟩
    rw [image_Same.l0.eq_2, if_neg (by omega), List.drop_eq_nil_of_le (by omega), List.drop_eq_nil_of_le (by omega)]
    rfl
  | succ d ih =>
    intro n i hd hn
    obtain ⟨n, rfl⟩ : ∃ k, n = k + 1 := ⟨n - 1, by omega⟩
    have hw : IntKind.i64.wrap ((i : Int) + 1) = ((i + 1 : Nat) : Int) := by rw [w64_id (by omega) (by omega)]; omega
    have h1 := getD_drop a i [] (by omega)
    have h2 := getD_drop b i [] (by omega)
    have h3 := hr _ (getD_mem a i [] (by omega))
    rw [image_Same.l0.eq_2, if_pos (by omega), if_pos (by omega), if_pos (by omega), hw, Int.toNat_natCast, ih n (i + 1) (by omega) (by omega), sameCode K _ _ h3.1 h3.2, h1, h2]
    simp only [b1]
    by_cases h : a.getD i [] = b.getD i []
    · rw [if_pos (decide_eq_true h)]
      congr 1
      exact decide_eq_decide.2 ⟨fun e => by rw [h, e], fun e => (List.cons.inj e).2⟩
    · rw [if_neg (by rw [decide_eq_false h]; simp), decide_eq_false (fun e => h (List.cons.inj e).1)]
theorem same_img (K : Nat) (a b : Im) (hl : a.length ≤ 1000000 ∧ a.length < K) (hr : ∀ r ∈ a, r.length ≤ 1000000 ∧ r.length < K) : image_Same.f K a b = some (decide (a = b)) := by
  unfold image_Same.f
  simp only [lt]
  by_cases h : a.length = b.length
  · rw [if_pos (by omega)]
    have := sameI_l K a b hl.1 h hr a.length K 0 (by omega) hl.2
    simpa using this
  · rw [if_neg (by omega), decide_eq_false (fun e => h (by rw [e]))]
/-! ### bytes read back -/
theorem takeN_back (rest : List Int) : ∀ (f g : List S27), rtC f → i32C f → takeN f.length (codeB f ++ rest) 0 g = (rest, 0, g ++ f, true)
  | [], g, _, _ => by simp [takeN, codeB]
  | x :: f, g, hr, hi => by
    have h1 := tk_put x.f0 x.f1 (hr x (List.mem_cons_self ..)) (hi x (List.mem_cons_self ..)) (codeB f ++ rest)
    have e : codeB (x :: f) ++ rest = encs (ns x.f0 x.f1) ++ (codeB f ++ rest) := by
      unfold codeB
      rw [List.map_cons, List.flatten_cons, List.append_assoc]
    have h2 : tkR (tk (codeB (x :: f) ++ rest) 0) = (codeB f ++ rest, 0, x.f0, x.f1, true) := by
      rw [e, h1]
      unfold tkR
      rw [if_pos ⟨rfl, hr x (List.mem_cons_self ..)⟩]
    rw [List.length_cons]
    unfold takeN
    rw [h2, if_pos rfl]
    show takeN f.length (codeB f ++ rest) 0 (g ++ [x]) = _
    rw [takeN_back rest f (g ++ [x]) (fun y hy => hr y (List.mem_cons_of_mem _ hy)) (fun y hy => hi y (List.mem_cons_of_mem _ hy)), List.append_assoc]
    rfl
theorem look_enc (n : Nat) (most : Int) (r : List Int) (h1 : n < 18446744073709551616) (h2 : (n : Int) ≤ most) : lookN (enc n ++ r) 0 most = (r, 0, (n : Int)) := by
  unfold lookN
  rw [if_pos rfl, rd_enc most n r h1, if_neg (by omega)]
theorem takeI_back (rest : List Int) : ∀ (m g : Im), rtI m → i32I m → (∀ r ∈ m, r.length ≤ 512) → takeI m.length (bodyB m ++ rest) 0 g = (rest, 0, g ++ m, true)
  | [], g, _, _, _ => by simp [takeI, bodyB]
  | f :: m, g, hr, hi, hw => by
    have hf := hw f (List.mem_cons_self ..)
    have e : bodyB (f :: m) ++ rest = enc f.length ++ (codeB f ++ (bodyB m ++ rest)) := by
      unfold bodyB
      rw [List.map_cons, List.flatten_cons, List.append_assoc, List.append_assoc]
    rw [List.length_cons, e]
    unfold takeI
    rw [look_enc f.length 512 _ (by omega) (by omega)]
    simp only [Int.toNat_natCast]
    rw [takeN_back _ f [] (hr f (List.mem_cons_self ..)) (hi f (List.mem_cons_self ..)), if_pos rfl]
    simp only [List.nil_append]
    rw [takeI_back rest m (g ++ [f]) (fun y hy => hr y (List.mem_cons_of_mem _ hy)) (fun y hy => hi y (List.mem_cons_of_mem _ hy)) (fun y hy => hw y (List.mem_cons_of_mem _ hy)), List.append_assoc]
    rfl
theorem takeIm_back (m : Im) (hm : Wf m) (hr : rtI m) (hi : i32I m) (more : List Int) : takeIm ((enc m.length ++ bodyB m) ++ more) = (more, 0, m, true) := by
  have h1 := hm.1
  unfold takeIm
  rw [List.append_assoc, look_enc m.length 64 _ (by omega) (by omega)]
  simp only [Int.toNat_natCast]
  rw [takeI_back more m [] hr hi hm.2, List.nil_append]
  rfl
/-! ### texts read back -/
theorem run_img (m : Im) (hm : Wf m) (hr : rtI m) (hi : i32I m) (s : ByteArray) (hs : s.data.toList = textD m) : run [] 0 (splitL s ⟨#[10]⟩) = (m, 0, 0) := by
  have h := lns_text [] m
  rw [List.append_nil] at h
  rw [splitL_eq, hs, h, List.map_append, run_text _ m [] 0 hr hi hm.2 (by have := hm.1; simpa using this), List.nil_append]
  show run m _ [ofL []] = _
  rw [run_cons, stp_empty, if_pos rfl]
  rfl
theorem textD_len (B : Nat) : ∀ m : Im, i32I m → (∀ r ∈ m, r.length ≤ B) → (textD m).length ≤ (5 + 43 * B) * m.length
  | [], _, _ => by simp [textD]
  | f :: m, hi, hw => by
    have h1 := textD_len B m (fun y hy => hi y (List.mem_cons_of_mem _ hy)) (fun y hy => hw y (List.mem_cons_of_mem _ hy))
    have h2 := codeD_len f (hi f (List.mem_cons_self ..))
    have h3 := hw f (List.mem_cons_self ..)
    have hfl : funcL.length = 4 := rfl
    unfold textD at h1 ⊢
    simp only [List.map_cons, List.flatten_cons, List.length_append, List.length_cons, List.length_nil]
    rw [Nat.mul_add, Nat.mul_one]
    omega
theorem bodyB_len2 (B : Nat) : ∀ m : Im, (∀ r ∈ m, r.length ≤ B) → (bodyB m).length ≤ (11 + 22 * B) * m.length
  | [], _ => by simp [bodyB]
  | f :: m, hw => by
    have h1 := bodyB_len2 B m (fun y hy => hw y (List.mem_cons_of_mem _ hy))
    have h2 := codeB_len f
    have h3 := hw f (List.mem_cons_self ..)
    have h4 := enc_len f.length
    unfold bodyB at h1 ⊢
    simp only [List.map_cons, List.flatten_cons, List.length_append, List.length_cons]
    rw [Nat.mul_add, Nat.mul_one]
    omega
theorem codeB_B (f : List S27) : IsB (codeB f) := fun y hy => by
  unfold codeB at hy
  obtain ⟨z, hz, hy⟩ := List.mem_flatten.1 hy
  obtain ⟨x, _, rfl⟩ := List.mem_map.1 hz
  exact encs_B _ y hy
theorem bodyB_B (m : Im) : IsB (bodyB m) := fun y hy => by
  unfold bodyB at hy
  obtain ⟨z, hz, hy⟩ := List.mem_flatten.1 hy
  obtain ⟨f, _, rfl⟩ := List.mem_map.1 hz
  exact ((enc_B _).app (codeB_B f)) y hy
end Go.Proofs.YtiilloijkbabbaaDoor.Img
