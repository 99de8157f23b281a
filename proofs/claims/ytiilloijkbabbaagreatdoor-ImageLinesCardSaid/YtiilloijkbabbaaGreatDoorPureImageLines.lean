import Derived.Test.YtiilloijkbabbaaGreatDoorG0
import Derived.Test.YtiilloijkbabbaaGreatDoorG1
import Derived.Test.YtiilloijkbabbaaGreatDoorG3
import Derived.Test.YtiilloijkbabbaaGreatDoorImgT
import Derived.Test.YtiilloijkbabbaaGreatDoorCode
/- An invalid line is reported with its number, which counts all lines before it, also empty ones. No condition. -/
set_option linter.unusedVariables false
set_option linter.unusedSimpArgs false
namespace Go.Proofs.YtiilloijkbabbaaGreatDoor.Pure
open Go Go.Fw Go.RowKit Go.Proofs.YtiilloijkbabbaaGreatDoor.G Go.Proofs.YtiilloijkbabbaaGreatDoor.Pack Go.Proofs.YtiilloijkbabbaaGreatDoor.Txt Go.Proofs.YtiilloijkbabbaaGreatDoor.Ins Go.Proofs.YtiilloijkbabbaaGreatDoor.Lns Go.Proofs.YtiilloijkbabbaaGreatDoor.Img

theorem known_n : ∃ K, 30000 ≤ K ∧ confidantlaw7_known.f K = some true := ⟨30000, Nat.le_refl _, by kernel_rfl⟩
def bads : List ByteArray := [(⟨#[112, 117, 115, 104]⟩ : ByteArray), (⟨#[114, 101, 116, 32, 48]⟩ : ByteArray), (⟨#[80, 117, 115, 104, 32, 49]⟩ : ByteArray), (⟨#[32, 112, 117, 115, 104, 32, 49]⟩ : ByteArray), (⟨#[112, 117, 115, 104, 32, 48, 49]⟩ : ByteArray), (⟨#[112, 117, 115, 104, 32, 50, 49, 52, 55, 52, 56, 51, 54, 52, 56]⟩ : ByteArray), (⟨#[106, 117, 109, 112, 32, 45, 49]⟩ : ByteArray), (⟨#[102, 117, 110, 99, 32]⟩ : ByteArray), (⟨#[102, 111, 114, 107]⟩ : ByteArray), (⟨#[108, 111, 97, 100, 32, 120]⟩ : ByteArray)]
theorem bad_parse : ∀ j : Fin 10, parseT (bads.getD (j : Nat) ⟨#[]⟩) = none := by decide +kernel
theorem bad_list : ∀ j : Fin 10, (10 : UInt8) ∉ (bads.getD (j : Nat) ⟨#[]⟩).data.toList ∧ (bads.getD (j : Nat) ⟨#[]⟩).data.toList ≠ [] ∧ (bads.getD (j : Nat) ⟨#[]⟩).data.toList ≠ funcL ∧ (bads.getD (j : Nat) ⟨#[]⟩).size ≤ 20 := by decide +kernel
def cnt (l : List UInt8) : Nat := l.count 10
theorem cnt_line (x : S59) : cnt (lineD x) = 0 := List.count_eq_zero.2 (line_nl x)
theorem cnt_code : ∀ f : List S59, cnt (codeD f) = f.length
  | [] => rfl
  | x :: f => by
    have h1 := cnt_code f
    have h2 := cnt_line x
    unfold cnt codeD at *
    rw [List.map_cons, List.flatten_cons, List.count_append, List.count_append, h1, h2, List.length_cons]
    simp
    omega
theorem cnt_text : ∀ m : Im, cnt (textD m) = (linesI m).length
  | [] => rfl
  | f :: m => by
    have h1 := cnt_text m
    have h2 := cnt_code f
    have e : linesI (f :: m) = funcL :: (f.map lineD ++ linesI m) := by unfold linesI; simp
    rw [e]
    unfold cnt textD at *
    rw [List.map_cons, List.flatten_cons, List.count_append, List.count_append, h1, h2, List.length_cons, List.length_append, List.length_map]
    have : List.count 10 (funcL ++ [10]) = 1 := by decide
    omega
theorem count_l (K : Nat) (s : ByteArray) (hs : s.size ≤ 1000000) (c0 : Int → Option Bool) : ∀ (d n i : Nat), i + d = s.size → d < n → confidantlaw7_ImageLines.l0 K s c0 n ((cnt (s.data.toList.take i) : Nat) : Int) (i : Int) = c0 ((cnt s.data.toList : Nat) : Int) := by
  have hsz := Lns.size_list s
  have hle : ∀ i, cnt (s.data.toList.take i) ≤ i := fun i => Nat.le_trans List.count_le_length (by rw [List.length_take]; omega)
  intro d
  induction d with
  | zero =>
    intro n i hd hn
    obtain ⟨n, rfl⟩ : ∃ k, n = k + 1 := ⟨n - 1, by omega⟩
    rw [confidantlaw7_ImageLines.l0.eq_2, if_neg (by omega), List.take_of_length_le (by omega)]
  | succ d ih =>
    intro n i hd hn
    obtain ⟨n, rfl⟩ : ∃ k, n = k + 1 := ⟨n - 1, by omega⟩
    have hw : IntKind.i64.wrap ((i : Int) + 1) = ((i + 1 : Nat) : Int) := by rw [w64_id (by omega) (by omega)]; omega
    have hc := hle i
    have hw2 : IntKind.i64.wrap (((cnt (s.data.toList.take i) : Nat) : Int) + 1) = ((cnt (s.data.toList.take i) + 1 : Nat) : Int) := by rw [w64_id (by omega) (by omega)]; omega
    have hi : i < s.data.toList.length := by omega
    have hget : s.data.toList[i]? = some s.data.toList[i] := List.getElem?_eq_getElem hi
    have htk : s.data.toList.take (i + 1) = s.data.toList.take i ++ [s.data.toList[i]] := by rw [List.take_succ_eq_append_getElem hi]
    have hrec := ih n (i + 1) (by omega) (by omega)
    rw [htk] at hrec
    unfold cnt at hrec hw2 ⊢
    rw [List.count_append] at hrec
    rw [confidantlaw7_ImageLines.l0.eq_2, if_pos (by omega), hw]
    simp only [lt]
    rw [if_pos (show (0 : Int) ≤ (i : Int) by omega), sAt_eq2 s i _ hget, hw2]
    by_cases h : s.data.toList[i] = 10
    · rw [if_pos (by rw [h]; rfl)]
      rw [h] at hrec
      exact hrec
    · have h' : s.data.toList[i].toNat ≠ 10 := fun e => h (by rw [← UInt8.toNat_inj]; exact e)
      rw [if_neg (by omega)]
      have e0 : List.count 10 [s.data.toList[i]] = 0 := List.count_eq_zero.2 (fun hm => h (List.mem_singleton.1 hm).symm)
      rw [e0] at hrec
      exact hrec
theorem stp_bad (m : Im) (x : ByteArray) (h1 : x.data.toList ≠ []) (h2 : x.data.toList ≠ funcL) (h3 : parseT x = none) : stp m x = (m, 24) := by
  unfold stp
  rw [if_neg h1, if_neg h2, h3]
theorem ImageLines : confidantlaw7_ImageLines.Pure := by
  intro l6 a9 a10 hl hw h9
  obtain ⟨K, hK, hk⟩ := known_n
  refine ⟨K, ?_⟩
  have u9 := is_u8 h9
  unfold confidantlaw7_ImageLines.f
  rw [hk]
  simp only [b1]
  rw [if_pos trivial]
  by_cases g1 : (l6.length : Int) > 40
  · rw [if_pos g1]
  rw [if_neg g1]
  obtain ⟨m, hm, hm2, hmg⟩ := Code.code_some K 2 l6 3 1 false (by omega) (by omega) hw (by omega) (by omega) (by omega)
  rw [show ((2 : Nat) : Int) = 2 from rfl] at hm
  rw [hm]
  have hwf : Wf m := ⟨by omega, fun r hr => by have := (hmg r hr).2.2; omega⟩
  have hrt : rtI m := fun r hr x hx => ((hmg r hr).1 x hx).1
  have hi : i32I m := fun r hr x hx => ((hmg r hr).1 x hx).2
  obtain ⟨s, s1, s2⟩ := rtext_img K (by omega) m hwf (by omega) (fun r hr => by have := (hmg r hr).2.2; omega) hi
  simp only [s2]
  have hlen : (textD m).length ≤ 2671 * m.length := by
    clear hwf hrt hm hm2 s1 s2
    induction m with
    | nil => simp [textD]
    | cons f m ih =>
      have h1 := ih (fun r hr => hmg r (List.mem_cons_of_mem _ hr)) (fun r hr => hi r (List.mem_cons_of_mem _ hr))
      have h2 := codeD_len f (hi f (List.mem_cons_self ..))
      have h4 := (hmg f (List.mem_cons_self ..)).2.2
      have hfl : funcL.length = 4 := rfl
      unfold textD at h1 ⊢
      simp only [List.map_cons, List.flatten_cons, List.length_append, List.length_cons, List.length_nil]
      omega
  have hsz : s.size ≤ 5342 := by rw [← Lns.size_list, s1]; omega
  have hcount : ∀ c0, confidantlaw7_ImageLines.l0 K s c0 K 0 0 = c0 (((linesI m).length : Nat) : Int) := fun c0 => by
    have := count_l K s (by omega) c0 s.size K 0 (by omega) (by omega)
    rw [s1, cnt_text] at this
    exact this
  simp only [lt]
  rw [hcount]
  have hll : (linesI m).length ≤ 6000 := by
    have := cnt_text m
    have h2 : cnt (textD m) ≤ (textD m).length := List.count_le_length
    omega
  have hm10 : Int.tmod a9 10 = a9 % 10 := Int.tmod_eq_emod_of_nonneg u9.1
  obtain ⟨j, hj⟩ : ∃ j : Fin 10, Int.tmod a9 10 = ((j : Nat) : Int) := ⟨⟨(a9 % 10).toNat, by omega⟩, by rw [hm10]; show _ = (((a9 % 10).toNat : Nat) : Int); omega⟩
  have hjl := j.isLt
  have hb := bad_list j
  have hbp := bad_parse j
  have h4 : (⟨#[10, 114, 101, 116]⟩ : ByteArray).size = 4 := rfl
  have h10 : (⟨#[10]⟩ : ByteArray).size = 1 := rfl
  have tail : ∀ (b0 : ByteArray) (a7 : Nat) (pre : List (List UInt8)), b0.size ≤ 5343 → (∀ rest, lns (b0.data.toList ++ rest) = linesI m ++ (pre ++ lns rest)) → (pre = [] ∧ a7 = (linesI m).length ∨ pre = [[]] ∧ a7 = (linesI m).length + 1) →
      (b3 (image_Parse.f K ((b0 ++ (bads.getD (j : Nat) ⟨#[]⟩)) ++ (⟨#[10, 114, 101, 116]⟩ : ByteArray))) fun (b7 : List (List S59)) (b5 : Int) (a8 : Int) => (b3 (image_Parse.f K b0) fun (a1 : List (List S59)) (a2 : Int) (a6 : Int) => (if (b7.length : Int) = 0 then (if b5 = (a7 : Int) then (if a8 = 24 then (if a6 = 0 then (if a2 = 0 then (some (decide ((a1.length : Int) = 2))) else (some false)) else (some false)) else (some false)) else (some false)) else (some false)))) = some true := by
    intro b0 a7 pre hb0 hlns hpre
    rw [parse_img K (by omega) _ (by rw [ByteArray.size_append, ByteArray.size_append, h4]; omega) (by rw [ByteArray.size_append, ByteArray.size_append, h4]; omega), parse_img K (by omega) b0 (by omega) (by omega)]
    have e1 : splitL ((b0 ++ (bads.getD (j : Nat) ⟨#[]⟩)) ++ (⟨#[10, 114, 101, 116]⟩ : ByteArray)) ⟨#[10]⟩ = (linesI m).map ofL ++ (pre.map ofL ++ [bads.getD (j : Nat) ⟨#[]⟩, ofL [114, 101, 116]]) := by
      rw [splitL_eq, data_app, data_app, List.append_assoc, hlns]
      show (linesI m ++ (pre ++ lns ((bads.getD (j : Nat) ⟨#[]⟩).data.toList ++ 10 :: [114, 101, 116]))).map ofL = _
      rw [lns_cons _ _ hb.1, List.map_append, List.map_append, List.map_cons, ← eq_ofL]
      rfl
    have e2 : splitL b0 ⟨#[10]⟩ = (linesI m).map ofL ++ (pre.map ofL ++ [ofL []]) := by
      have := hlns []
      rw [List.append_nil] at this
      rw [splitL_eq, this, List.map_append, List.map_append]
      rfl
    have hrun := fun rest => run_text rest m [] 0 hrt hi hwf.2 (by have := hwf.1; simpa using this)
    rw [e1, e2, hrun, hrun, List.nil_append, Nat.zero_add]
    have hbad : ∀ i r, run m i (bads.getD (j : Nat) ⟨#[]⟩ :: r) = ([], (i : Int), 24) := fun i r => by
      rw [run_cons, stp_bad m _ hb.2.1 hb.2.2.1 hbp, if_neg (show ¬ (24 : Int) = 0 by omega)]
    have hend : ∀ i, run m i [ofL []] = (m, 0, 0) := fun i => by
      rw [run_cons, stp_empty, if_pos rfl]
      rfl
    have hskip : ∀ i r, run m i (ofL [] :: r) = run m (i + 1) r := fun i r => by
      rw [run_cons, stp_empty, if_pos rfl]
    rcases hpre with ⟨rfl, rfl⟩ | ⟨rfl, rfl⟩
    · simp only [List.map_nil, List.nil_append]
      rw [hbad, hend]
      simp [b3, hm2]
    · simp only [List.map_cons, List.map_nil, List.cons_append, List.nil_append]
      rw [hskip, hskip, hbad, hend]
      simp [b3, hm2]
  have fin : ∀ (b0 : ByteArray) (a7 : Nat) (pre : List (List UInt8)), b0.size ≤ 5343 → (∀ rest, lns (b0.data.toList ++ rest) = linesI m ++ (pre ++ lns rest)) → (pre = [] ∧ a7 = (linesI m).length ∨ pre = [[]] ∧ a7 = (linesI m).length + 1) →
      (if (0 : Int) ≤ Int.tmod a9 10 then (if Int.tmod a9 10 < (bads.length : Int) then (if b0.size + (bads.getD (Int.tmod a9 10).toNat ⟨#[]⟩).size ≤ 9223372036854775807 then (if (b0 ++ (bads.getD (Int.tmod a9 10).toNat ⟨#[]⟩)).size + (⟨#[10, 114, 101, 116]⟩ : ByteArray).size ≤ 9223372036854775807 then (b3 (image_Parse.f K ((b0 ++ (bads.getD (Int.tmod a9 10).toNat ⟨#[]⟩)) ++ (⟨#[10, 114, 101, 116]⟩ : ByteArray))) fun (b7 : List (List S59)) (b5 : Int) (a8 : Int) => (b3 (image_Parse.f K b0) fun (a1 : List (List S59)) (a2 : Int) (a6 : Int) => (if (b7.length : Int) = 0 then (if b5 = (a7 : Int) then (if a8 = 24 then (if a6 = 0 then (if a2 = 0 then (some (decide ((a1.length : Int) = 2))) else (some false)) else (some false)) else (some false)) else (some false)) else (some false)))) else none) else none) else none) else none) = some true := by
    intro b0 a7 pre hb0 hlns hpre
    have hbl : (bads.length : Int) = 10 := rfl
    rw [hj, Int.toNat_natCast, if_pos (by omega), if_pos (by omega), if_pos (by omega), if_pos (by rw [ByteArray.size_append, h4]; omega)]
    exact tail b0 a7 pre hb0 hlns hpre
  by_cases ha : a10 = true
  · have hw7 : IntKind.i64.wrap (((linesI m).length : Int) + 1) = (((linesI m).length + 1 : Nat) : Int) := by rw [w64_id (by omega) (by omega)]; omega
    rw [if_pos ha, if_pos (by rw [h10]; omega), hw7]
    refine fin (s ++ ⟨#[10]⟩) ((linesI m).length + 1) [[]] (by rw [ByteArray.size_append, h10]; omega) (fun rest => ?_) (.inr ⟨rfl, rfl⟩)
    rw [data_app, s1, List.append_assoc, lns_text]
    show linesI m ++ lns (10 :: rest) = _
    rw [lns_c, if_pos rfl]
    rfl
  · rw [if_neg ha]
    exact fin s (linesI m).length [] (by omega) (fun rest => by rw [s1, lns_text]; rfl) (.inl ⟨rfl, rfl⟩)
end Go.Proofs.YtiilloijkbabbaaGreatDoor.Pure
