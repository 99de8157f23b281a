import Derived.Test.YtiilloijkbabbaaDoorG0
import Derived.Test.YtiilloijkbabbaaDoorG1
import Derived.Test.YtiilloijkbabbaaDoorInsC
import Derived.Test.YtiilloijkbabbaaDoorImgP
/- Images as texts, and back. Conditions: in the lemmas. -/
set_option linter.unusedVariables false
set_option linter.unusedSimpArgs false
namespace Go.Proofs.YtiilloijkbabbaaDoor.Img
open Go Go.Fw Go.RowKit Go.Proofs.YtiilloijkbabbaaDoor.G Go.Proofs.YtiilloijkbabbaaDoor.Pack Go.Proofs.YtiilloijkbabbaaDoor.Txt Go.Proofs.YtiilloijkbabbaaDoor.Ins Go.Proofs.YtiilloijkbabbaaDoor.Lns

def lineB (x : S27) : ByteArray := if Rt x.f0 x.f1 then textL x.f0 x.f1 else ⟨#[]⟩
def lineD (x : S27) : List UInt8 := (lineB x).data.toList
def codeD (f : List S27) : List UInt8 := (f.map fun x => lineD x ++ [10]).flatten
def textD (m : Im) : List UInt8 := (m.map fun f => (funcL ++ [10]) ++ codeD f).flatten
def i32C (f : List S27) : Prop := ∀ x ∈ f, i32r x.f1
def i32I (m : Im) : Prop := ∀ f ∈ m, i32C f
theorem sAt_eq2 (s : ByteArray) (j : Nat) (c : UInt8) (h : s.data.toList[j]? = some c) : sAt s (j : Int) = (c.toNat : Int) := by
  unfold sAt
  rw [Int.toNat_natCast, List.getD_eq_getElem?_getD, h]
  rfl
theorem line_size (x : S27) (h : i32r x.f1) : (lineD x).length ≤ 42 := by
  unfold lineD lineB
  rw [Lns.size_list]
  split
  · rename_i hr
    have h1 := name_size x.f0 hr.1
    have h2 := itoaL_size x.f1 h
    have h32 : (⟨#[32]⟩ : ByteArray).size = 1 := rfl
    unfold textL
    split
    · omega
    · rw [ByteArray.size_append, ByteArray.size_append]; omega
  · decide
theorem codeD_len : ∀ f : List S27, i32C f → (codeD f).length ≤ 43 * f.length
  | [], _ => by simp [codeD]
  | x :: f, h => by
    have ih := codeD_len f (fun y hy => h y (List.mem_cons_of_mem _ hy))
    have h1 := line_size x (h x (List.mem_cons_self ..))
    unfold codeD at ih ⊢
    simp only [List.map_cons, List.flatten_cons, List.length_append, List.length_cons, List.length_nil]
    omega
theorem codeD_drop (f : List S27) (i : Nat) (h : i < f.length) : codeD (f.drop i) = lineD (f.getD i zS27) ++ [10] ++ codeD (f.drop (i + 1)) := by
  rw [List.drop_eq_getElem_cons h, List.getD_eq_getElem?_getD, List.getElem?_eq_getElem h]
  unfold codeD
  rw [List.map_cons, List.flatten_cons]
  rfl
theorem textD_drop (m : Im) (i : Nat) (h : i < m.length) : textD (m.drop i) = (funcL ++ [10]) ++ codeD (m.getD i []) ++ textD (m.drop (i + 1)) := by
  rw [List.drop_eq_getElem_cons h, List.getD_eq_getElem?_getD, List.getElem?_eq_getElem h]
  unfold textD
  rw [List.map_cons, List.flatten_cons]
  rfl
theorem data_app (a b : ByteArray) : (a ++ b).data.toList = a.data.toList ++ b.data.toList := by rw [ByteArray.data_append, Array.toList_append]
theorem text_l1 (K : Nat) (hK : 100 ≤ K) (m : Im) (i : Nat) (j4 : ByteArray → Option ByteArray) (hf : (m.getD i []).length ≤ 100000) (hi : i32C (m.getD i [])) (B0 : Nat) (hB0 : B0 ≤ 1000000000) : ∀ (d n j : Nat) (b : ByteArray), j + d = (m.getD i []).length → d < n → b.size ≤ B0 + 43 * j →
    ∃ s : ByteArray, s.data.toList = b.data.toList ++ codeD ((m.getD i []).drop j) ∧ image_Text.l1 K m (i : Int) j4 n b (j : Int) = j4 s := by
  intro d
  induction d with
  | zero =>
    intro n j b hd hn hb
    obtain ⟨n, rfl⟩ : ∃ k, n = k + 1 := ⟨n - 1, by omega⟩
    exact ⟨b, by rw [List.drop_eq_nil_of_le (by omega)]; simp [codeD], by rw [image_Text.l1.eq_2, Int.toNat_natCast, if_neg (by omega)]⟩
  | succ d ih =>
    intro n j b hd hn hb
    obtain ⟨n, rfl⟩ : ∃ k, n = k + 1 := ⟨n - 1, by omega⟩
    have hw : IntKind.i64.wrap ((j : Int) + 1) = ((j + 1 : Nat) : Int) := by rw [w64_id (by omega) (by omega)]; omega
    have hx := hi _ (getD_mem (m.getD i []) j zS27 (by omega))
    have hs := line_size _ hx
    have hz : (lineB ((m.getD i []).getD j zS27)).size ≤ 42 := by rw [← Lns.size_list]; exact hs
    have h10 : (⟨#[10]⟩ : ByteArray).size = 1 := rfl
    obtain ⟨s, h1, h2⟩ := ih n (j + 1) (b ++ (lineB ((m.getD i []).getD j zS27) ++ ⟨#[10]⟩)) (by omega) (by omega) (by rw [ByteArray.size_append, ByteArray.size_append, h10]; omega)
    refine ⟨s, ?_, ?_⟩
    · rw [h1, codeD_drop (m.getD i []) j (by omega), data_app, data_app]
      simp only [List.append_assoc]
      rfl
    · have ht : instr_Text.f K ((m.getD i []).getD j zS27).f0 ((m.getD i []).getD j zS27).f1 = some (lineB ((m.getD i []).getD j zS27)) := text_f K _ _ hx
      rw [image_Text.l1.eq_2, Int.toNat_natCast, if_pos (by omega), if_pos (by omega), hw, Int.toNat_natCast, ht]
      simp only [lt, b1]
      rw [if_pos (by rw [h10]; omega), if_pos (by rw [ByteArray.size_append, h10]; omega)]
      exact h2
theorem text_l0 (K : Nat) (hK : 100 ≤ K) (m : Im) (hm : Wf m) (hm2 : ∀ r ∈ m, r.length < K) (hi : i32I m) (j3 : ByteArray → Option ByteArray) : ∀ (d n i : Nat) (b : ByteArray), i + d = m.length → d < n → b.size ≤ 30000 * i →
    ∃ s : ByteArray, s.data.toList = b.data.toList ++ textD (m.drop i) ∧ image_Text.l0 K m j3 n b (i : Int) = j3 s := by
  intro d
  induction d with
  | zero =>
    intro n i b hd hn hb
    obtain ⟨n, rfl⟩ : ∃ k, n = k + 1 := ⟨n - 1, by omega⟩
    exact ⟨b, by rw [List.drop_eq_nil_of_le (by omega)]; simp [textD], by rw [image_Text.l0.eq_2, if_neg (by omega)]⟩
  | succ d ih =>
    intro n i b hd hn hb
    obtain ⟨n, rfl⟩ : ∃ k, n = k + 1 := ⟨n - 1, by omega⟩
    have hm1 := hm.1
    have hw : IntKind.i64.wrap ((i : Int) + 1) = ((i + 1 : Nat) : Int) := by rw [w64_id (by omega) (by omega)]; omega
    have hmem := getD_mem m i [] (by omega)
    have hf := hm.2 _ hmem
    have h5 : (⟨#[102, 117, 110, 99, 10]⟩ : ByteArray).size = 5 := rfl
    obtain ⟨s1, g1, g2⟩ := text_l1 K hK m i (fun b9 => image_Text.l0 K m j3 n b9 ((i + 1 : Nat) : Int)) (by omega) (hi _ hmem) (30000 * i + 5) (by omega) (m.getD i []).length K 0 (b ++ ⟨#[102, 117, 110, 99, 10]⟩) (by omega) (hm2 _ hmem) (by rw [ByteArray.size_append, h5]; omega)
    rw [List.drop_zero, data_app] at g1
    have hc := codeD_len _ (hi _ hmem)
    have hs1 : s1.size = b.size + 5 + (codeD (m.getD i [])).length := by
      rw [← Lns.size_list, g1, List.length_append, List.length_append, Lns.size_list]
      rfl
    obtain ⟨s, h1, h2⟩ := ih n (i + 1) s1 (by omega) (by omega) (by omega)
    refine ⟨s, ?_, ?_⟩
    · rw [h1, g1, textD_drop m i (by omega)]
      simp only [List.append_assoc]
      rfl
    · rw [image_Text.l0.eq_2, if_pos (by omega), hw]
      simp only [lt]
      rw [if_pos (by omega), if_pos (by rw [h5]; omega)]
      exact g2.trans h2
theorem text_img (K : Nat) (hK : 100 ≤ K) (m : Im) (hm : Wf m) (hl : m.length < K) (hm2 : ∀ r ∈ m, r.length < K) (hi : i32I m) : ∃ s : ByteArray, s.data.toList = textD m ∧ image_Text.f K m = some s := by
  unfold image_Text.f
  simp only [lt]
  obtain ⟨s, h1, h2⟩ := text_l0 K hK m hm hm2 hi (fun b0 => some b0) m.length K 0 (⟨#[]⟩ : ByteArray) (by omega) hl (by decide)
  exact ⟨s, by simpa using h1, h2⟩
/-! ### lines read back -/
theorem nm_nl : ∀ i : Fin 26, (10 : UInt8) ∉ (nameT ((i : Nat) + 1 : Int)).data.toList := by decide +kernel
theorem itoa_nl (n : Int) : (10 : UInt8) ∉ Lib.itoa n := by
  have d : ∀ u, (10 : UInt8) ∉ Lib.decDigits u := fun u h => by
    have := (dec_spec u).1 10 h
    have e : (10 : UInt8).toNat = 10 := rfl
    omega
  unfold Lib.itoa
  split
  · intro h
    rcases List.mem_cons.1 h with h | h
    · exact absurd h (by decide)
    · exact d _ h
  · exact d _
theorem line_nl (x : S27) : (10 : UInt8) ∉ lineD x := by
  unfold lineD lineB
  split
  · rename_i hr
    have h1 : (10 : UInt8) ∉ (nameT x.f0).data.toList := by obtain ⟨i, hi⟩ := fin_of x.f0 hr.1; rw [hi]; exact nm_nl i
    rw [text_data]
    split
    · exact h1
    · intro h
      rcases List.mem_append.1 h with h | h
      · exact h1 h
      · rcases List.mem_cons.1 h with h | h
        · exact absurd h (by decide)
        · exact itoa_nl _ h
  · simp
def linesI (m : Im) : List (List UInt8) := (m.map fun f => funcL :: f.map lineD).flatten
theorem lns_code (rest : List UInt8) : ∀ f : List S27, lns (codeD f ++ rest) = f.map lineD ++ lns rest
  | [] => rfl
  | x :: f => by
    unfold codeD
    rw [List.map_cons, List.flatten_cons, List.append_assoc, List.append_assoc]
    show lns (lineD x ++ 10 :: (codeD f ++ rest)) = _
    rw [lns_cons _ _ (line_nl x), lns_code rest f]
    rfl
theorem lns_text (rest : List UInt8) : ∀ m : Im, lns (textD m ++ rest) = linesI m ++ lns rest
  | [] => rfl
  | f :: m => by
    unfold textD linesI
    rw [List.map_cons, List.flatten_cons, List.append_assoc, List.append_assoc, List.append_assoc]
    show lns (funcL ++ 10 :: (codeD f ++ (textD m ++ rest))) = _
    rw [lns_cons _ _ (by decide), lns_code, lns_text rest m]
    unfold linesI
    simp
theorem parse_func : parseT (ofL funcL) = none := by kernel_rfl
theorem stp_func (m : Im) (h : m.length ≠ 64) : stp m (ofL funcL) = (m ++ [[]], 0) := by
  unfold stp
  rw [ofL_data, if_neg (by decide), if_pos rfl, if_neg h]
theorem stp_empty (m : Im) : stp m (ofL []) = (m, 0) := by
  unfold stp
  rw [ofL_data, if_pos rfl]
theorem stp_line (pre : Im) (g : List S27) (x : S27) (hr : Rt x.f0 x.f1) (hi : i32r x.f1) (hg : g.length ≠ 512) : stp (pre ++ [g]) (ofL (lineD x)) = (pre ++ [g ++ [x]], 0) := by
  have e : ofL (lineD x) = textL x.f0 x.f1 := by unfold lineD; rw [← eq_ofL]; unfold lineB; rw [if_pos hr]
  have hp := parseT_text x.f0 x.f1 hr hi
  have hne : (textL x.f0 x.f1).data.toList ≠ [] := text_pos _ _ hr.1
  have hnf : (textL x.f0 x.f1).data.toList ≠ funcL := fun h => by
    have : textL x.f0 x.f1 = ofL funcL := by rw [eq_ofL (textL x.f0 x.f1), h]
    rw [this, parse_func] at hp
    cases hp
  unfold stp
  rw [e, if_neg hne, if_neg hnf, hp]
  simp [hg]
theorem run_cons (m : Im) (i : Nat) (x : ByteArray) (r : List ByteArray) : run m i (x :: r) = if (stp m x).2 = 0 then run (stp m x).1 (i + 1) r else ([], (i : Int), (stp m x).2) := rfl
theorem run_code (rest : List ByteArray) : ∀ (f : List S27) (pre : Im) (g : List S27) (i : Nat), rtC f → i32C f → g.length + f.length ≤ 512 → run (pre ++ [g]) i ((f.map lineD).map ofL ++ rest) = run (pre ++ [g ++ f]) (i + f.length) rest
  | [], pre, g, i, _, _, _ => by simp
  | x :: f, pre, g, i, hr, hi, hg => by
    simp only [List.length_cons] at hg
    rw [List.map_cons, List.map_cons, List.cons_append, run_cons, stp_line pre g x (hr x (List.mem_cons_self ..)) (hi x (List.mem_cons_self ..)) (by omega), if_pos rfl,
      run_code rest f pre (g ++ [x]) (i + 1) (fun y hy => hr y (List.mem_cons_of_mem _ hy)) (fun y hy => hi y (List.mem_cons_of_mem _ hy)) (by rw [List.length_append, List.length_singleton]; omega)]
    rw [List.append_assoc, List.length_cons, show i + 1 + f.length = i + (f.length + 1) by omega]
    rfl
theorem run_text (rest : List ByteArray) : ∀ (m pre : Im) (i : Nat), rtI m → i32I m → (∀ r ∈ m, r.length ≤ 512) → pre.length + m.length ≤ 64 → run pre i ((linesI m).map ofL ++ rest) = run (pre ++ m) (i + (linesI m).length) rest
  | [], pre, i, _, _, _, _ => by simp [linesI]
  | f :: m, pre, i, hr, hi, hw, hl => by
    have e : linesI (f :: m) = funcL :: (f.map lineD ++ linesI m) := by unfold linesI; simp
    simp only [List.length_cons] at hl
    rw [e, List.map_cons, List.cons_append, run_cons, stp_func pre (by omega), if_pos rfl, List.map_append, List.append_assoc]
    rw [run_code _ f pre [] (i + 1) (hr f (List.mem_cons_self ..)) (hi f (List.mem_cons_self ..)) (by have := hw f (List.mem_cons_self ..); simpa using this), List.nil_append]
    rw [run_text rest m (pre ++ [f]) _ (fun y hy => hr y (List.mem_cons_of_mem _ hy)) (fun y hy => hi y (List.mem_cons_of_mem _ hy)) (fun y hy => hw y (List.mem_cons_of_mem _ hy)) (by rw [List.length_append, List.length_singleton]; omega)]
    rw [List.append_assoc, List.length_cons, List.length_append, List.length_map, show i + 1 + f.length + (linesI m).length = i + (f.length + (linesI m).length + 1) by omega]
    rfl
end Go.Proofs.YtiilloijkbabbaaDoor.Img
