import Derived.Test.YtiilloijkbabbaaDoorG0
import Derived.Test.YtiilloijkbabbaaDoorG1
import Derived.Test.YtiilloijkbabbaaDoorG2
import Derived.Test.YtiilloijkbabbaaDoorImgP
/- MaxFuncs functions and MaxCode instructions are accepted, and more yield ErrLong, by Parse at the first line too many. No condition. -/
set_option linter.unusedVariables false
set_option linter.unusedSimpArgs false
namespace Go.Proofs.YtiilloijkbabbaaDoor.Pure
open Go Go.Fw Go.RowKit Go.Proofs.YtiilloijkbabbaaDoor.G Go.Proofs.YtiilloijkbabbaaDoor.Pack Go.Proofs.YtiilloijkbabbaaDoor.Txt Go.Proofs.YtiilloijkbabbaaDoor.Ins Go.Proofs.YtiilloijkbabbaaDoor.Lns Go.Proofs.YtiilloijkbabbaaDoor.Img

theorem known_l : ∃ K, 5000 ≤ K ∧ confidantlaw7_known.f K = some true := ⟨5000, Nat.le_refl _, by kernel_rfl⟩
def retL : List UInt8 := [114, 101, 116]
theorem parse_ret : parseT (ofL retL) = some (25, 0) := by kernel_rfl
theorem lns_rep (w : List UInt8) (hw : (10 : UInt8) ∉ w) (rest : List UInt8) : ∀ k, lns ((List.replicate k (w ++ [10])).flatten ++ rest) = List.replicate k w ++ lns rest
  | 0 => rfl
  | k + 1 => by
    rw [List.replicate_succ, List.flatten_cons, List.replicate_succ, List.append_assoc, List.append_assoc]
    show lns (w ++ 10 :: ((List.replicate k (w ++ [10])).flatten ++ rest)) = _
    rw [lns_cons w _ hw, lns_rep w hw rest k]
    rfl
theorem stp_func (m : Im) (h : m.length ≠ 64) : stp m (ofL funcL) = (m ++ [[]], 0) := by
  unfold stp
  rw [ofL_data, if_neg (by decide), if_pos rfl, if_neg h]
theorem stp_full (m : Im) (h : m.length = 64) : stp m (ofL funcL) = (m, 22) := by
  unfold stp
  rw [ofL_data, if_neg (by decide), if_pos rfl, if_pos h]
theorem stp_ret (f : List S27) (h : f.length ≠ 512) : stp [f] (ofL retL) = ([f ++ [⟨25, 0⟩]], 0) := by
  unfold stp
  rw [ofL_data, if_neg (by decide), if_neg (by decide), parse_ret]
  simp [h]
theorem stp_ret_full (f : List S27) (h : f.length = 512) : stp [f] (ofL retL) = ([f], 22) := by
  unfold stp
  rw [ofL_data, if_neg (by decide), if_neg (by decide), parse_ret]
  simp [h]
theorem stp_empty (m : Im) : stp m (ofL []) = (m, 0) := by
  unfold stp
  rw [ofL_data, if_pos rfl]
theorem run_cons (m : Im) (i : Nat) (x : ByteArray) (r : List ByteArray) : run m i (x :: r) = if (stp m x).2 = 0 then run (stp m x).1 (i + 1) r else ([], (i : Int), (stp m x).2) := rfl
theorem run_func (rest : List ByteArray) : ∀ (k : Nat) (m : Im) (i : Nat), m.length + k ≤ 64 → run m i (List.replicate k (ofL funcL) ++ rest) = run (m ++ List.replicate k []) (i + k) rest
  | 0, m, i, _ => by simp
  | k + 1, m, i, h => by
    rw [List.replicate_succ, List.cons_append, run_cons, stp_func m (by omega), if_pos rfl, run_func rest k _ _ (by simp; omega), List.replicate_succ, List.append_assoc, show i + 1 + k = i + (k + 1) by omega]
    rfl
theorem run_ret (rest : List ByteArray) : ∀ (k : Nat) (f : List S27) (i : Nat), f.length + k ≤ 512 → run [f] i (List.replicate k (ofL retL) ++ rest) = run [f ++ List.replicate k ⟨25, 0⟩] (i + k) rest
  | 0, f, i, _ => by simp
  | k + 1, f, i, h => by
    rw [List.replicate_succ, List.cons_append, run_cons, stp_ret f (by omega), if_pos rfl, run_ret rest k _ _ (by simp; omega), List.replicate_succ, List.append_assoc, show i + 1 + k = i + (k + 1) by omega]
    rfl
theorem funcs (K : Nat) (a2 : Int) (c9 : ByteArray → Option Bool) (N : Nat) (hN : IntKind.i64.wrap (62 + (IntKind.i64.wrap (Int.tmod a2 4))) = (N : Int)) (hN2 : N ≤ 1000) : ∀ (d n i : Nat) (b : ByteArray), i + d = N → d < n → b.size ≤ 5 * i →
    ∃ s : ByteArray, s.data.toList = b.data.toList ++ (List.replicate d (funcL ++ [10])).flatten ∧ confidantlaw7_ImageLimits.l0 K a2 c9 n b (i : Int) = c9 s := by
  intro d
  induction d with
  | zero =>
    intro n i b hd hn hb
    obtain ⟨n, rfl⟩ : ∃ k, n = k + 1 := ⟨n - 1, by omega⟩
    exact ⟨b, by simp, by rw [confidantlaw7_ImageLimits.l0.eq_2, hN, if_neg (by omega)]⟩
  | succ d ih =>
    intro n i b hd hn hb
    obtain ⟨n, rfl⟩ : ∃ k, n = k + 1 := ⟨n - 1, by omega⟩
    have hw : IntKind.i64.wrap ((i : Int) + 1) = ((i + 1 : Nat) : Int) := by rw [w64_id (by omega) (by omega)]; omega
    have h5 : (⟨#[102, 117, 110, 99, 10]⟩ : ByteArray).size = 5 := rfl
    obtain ⟨s, h1, h2⟩ := ih n (i + 1) (b ++ ⟨#[102, 117, 110, 99, 10]⟩) (by omega) (by omega) (by rw [ByteArray.size_append, h5]; omega)
    refine ⟨s, ?_, ?_⟩
    · rw [h1, ByteArray.data_append, Array.toList_append, List.replicate_succ, List.flatten_cons, List.append_assoc]
      rfl
    · rw [confidantlaw7_ImageLimits.l0.eq_2, hN, if_pos (by omega), if_pos (by rw [h5]; omega), hw]
      exact h2
theorem rets (K : Nat) (L : Nat) (d0 : List S27 → ByteArray → Option Bool) (hL : L ≤ 1000) : ∀ (d n i : Nat) (b : ByteArray), i + d = L → d < n → b.size ≤ 5 + 4 * i →
    ∃ s : ByteArray, s.data.toList = b.data.toList ++ (List.replicate d (retL ++ [10])).flatten ∧ confidantlaw7_ImageLimits.l1 K (L : Int) d0 n (List.replicate i ⟨25, 0⟩ ++ List.replicate d zS27) b (i : Int) = d0 (List.replicate L ⟨25, 0⟩) s := by
  intro d
  induction d with
  | zero =>
    intro n i b hd hn hb
    obtain ⟨n, rfl⟩ : ∃ k, n = k + 1 := ⟨n - 1, by omega⟩
    have : i = L := by omega
    subst this
    exact ⟨b, by simp, by rw [confidantlaw7_ImageLimits.l1.eq_2, if_neg (by omega)]; simp⟩
  | succ d ih =>
    intro n i b hd hn hb
    obtain ⟨n, rfl⟩ : ∃ k, n = k + 1 := ⟨n - 1, by omega⟩
    have hw : IntKind.i64.wrap ((i : Int) + 1) = ((i + 1 : Nat) : Int) := by rw [w64_id (by omega) (by omega)]; omega
    have h4 : (⟨#[114, 101, 116, 10]⟩ : ByteArray).size = 4 := rfl
    obtain ⟨s, h1, h2⟩ := ih n (i + 1) (b ++ ⟨#[114, 101, 116, 10]⟩) (by omega) (by omega) (by rw [ByteArray.size_append, h4]; omega)
    refine ⟨s, ?_, ?_⟩
    · rw [h1, ByteArray.data_append, Array.toList_append, List.replicate_succ, List.flatten_cons, List.append_assoc]
      rfl
    · rw [confidantlaw7_ImageLimits.l1.eq_2, if_pos (by omega), if_pos (by omega), if_pos (by simp; omega), hw, Int.toNat_natCast]
      simp only [lt]
      rw [if_pos (by rw [h4]; omega)]
      have hset : (List.replicate i (⟨25, 0⟩ : S27) ++ List.replicate (d + 1) zS27).set i ⟨25, 0⟩ = List.replicate (i + 1) (⟨25, 0⟩ : S27) ++ List.replicate d zS27 := by
        rw [List.set_append_right i _ (by simp), List.length_replicate, Nat.sub_self, List.replicate_succ, List.set_cons_zero, List.replicate_succ' (n := i), List.append_assoc]
        rfl
      rw [hset]
      exact h2
theorem rt_ret (L : Nat) : rtC (List.replicate L (⟨25, 0⟩ : S27)) := fun x hx => by
  rw [List.eq_of_mem_replicate hx]
  show Rt 25 0
  decide +kernel
theorem ImageLimits : confidantlaw7_ImageLimits.Pure := by
  intro a2 h2
  have u2 := is_u8 h2
  obtain ⟨K, hK, hk⟩ := known_l
  refine ⟨K, ?_⟩
  obtain ⟨N, hN, hN1⟩ : ∃ N : Nat, IntKind.i64.wrap (62 + (IntKind.i64.wrap (Int.tmod a2 4))) = (N : Int) ∧ 62 ≤ N ∧ N ≤ 65 := by
    refine ⟨(62 + a2 % 4).toNat, ?_, by omega, by omega⟩
    rw [Int.tmod_eq_emod_of_nonneg u2.1, w64_id (x := a2 % 4) (by omega) (by omega), w64_id (by omega) (by omega)]
    omega
  obtain ⟨L, hL, hL1⟩ : ∃ L : Nat, IntKind.i64.wrap (510 + (IntKind.i64.wrap (Int.tmod (IntKind.u8.wrap (Int.tdiv a2 4)) 4))) = (L : Int) ∧ 510 ≤ L ∧ L ≤ 513 := by
    refine ⟨(510 + a2 / 4 % 4).toNat, ?_, by omega, by omega⟩
    rw [Int.tdiv_eq_ediv_of_nonneg u2.1, wu8_id (by omega) (by omega), Int.tmod_eq_emod_of_nonneg (by omega), w64_id (x := a2 / 4 % 4) (by omega) (by omega), w64_id (by omega) (by omega)]
    omega
  unfold confidantlaw7_ImageLimits.f
  rw [hk]
  simp only [b1, lt, hN, hL, Int.toNat_natCast]
  rw [if_pos trivial, if_pos (by omega), if_pos (by omega), if_pos (by omega), if_pos (by omega)]
  obtain ⟨s, s1, s2⟩ := funcs K a2 (fun (a6 : ByteArray) => (confidantlaw7_ImageLimits.l1 K (L : Int) (fun (b4 : List S27) (c3 : ByteArray) => (b2 (image_Put.f K (List.replicate N [])) fun (e7 : List Int) (c2 : Int) => (b2 (image_Put.f K ([b4] : List (List S27))) fun (g7 : List Int) (b8 : Int) => (b3 (image_Parse.f K a6) fun (g8 : List (List S27)) (a5 : Int) (b0 : Int) => (b3 (image_Parse.f K c3) fun (g9 : List (List S27)) (a1 : Int) (a8 : Int) => (if ((decide (c2 = 22)) == (decide ((N : Int) > 64))) = true then (if ((decide (b8 = 22)) == (decide ((L : Int) > 512))) = true then (if ((decide (b0 = 22)) == (decide ((N : Int) > 64))) = true then (if ((decide (a8 = 22)) == (decide ((L : Int) > 512))) = true then (if (N : Int) ≤ 64 then (if (L : Int) ≤ 512 then (some true) else (some (decide (a1 = 513)))) else (if a5 = 64 then (if (L : Int) ≤ 512 then (some true) else (some (decide (a1 = 513)))) else (some false))) else (some false)) else (some false)) else (some false)) else (some false))))))) K (List.replicate L zS27) (⟨#[102, 117, 110, 99, 10]⟩ : ByteArray) 0)) N hN (by omega) N K 0 (⟨#[]⟩ : ByteArray) (by omega) (by omega) (by decide)
  rw [show (0 : Int) = ((0 : Nat) : Int) from rfl]
  refine Eq.trans s2 ?_
  (try simp only)
  obtain ⟨t, t1, t2⟩ := rets K L (fun (b4 : List S27) (c3 : ByteArray) => (b2 (image_Put.f K (List.replicate N [])) fun (e7 : List Int) (c2 : Int) => (b2 (image_Put.f K ([b4] : List (List S27))) fun (g7 : List Int) (b8 : Int) => (b3 (image_Parse.f K s) fun (g8 : List (List S27)) (a5 : Int) (b0 : Int) => (b3 (image_Parse.f K c3) fun (g9 : List (List S27)) (a1 : Int) (a8 : Int) => (if ((decide (c2 = 22)) == (decide ((N : Int) > 64))) = true then (if ((decide (b8 = 22)) == (decide ((L : Int) > 512))) = true then (if ((decide (b0 = 22)) == (decide ((N : Int) > 64))) = true then (if ((decide (a8 = 22)) == (decide ((L : Int) > 512))) = true then (if (N : Int) ≤ 64 then (if (L : Int) ≤ 512 then (some true) else (some (decide (a1 = 513)))) else (if a5 = 64 then (if (L : Int) ≤ 512 then (some true) else (some (decide (a1 = 513)))) else (some false))) else (some false)) else (some false)) else (some false)) else (some false))))))) (by omega) L K 0 (⟨#[102, 117, 110, 99, 10]⟩ : ByteArray) (by omega) (by omega) (by decide)
  refine Eq.trans (Eq.trans (by simp) t2) ?_
  (try simp only)
  have z1 : s.size = 5 * N := by
    rw [← Lns.size_list, s1]
    simp [funcL]
    omega
  have z2 : t.size = 5 + 4 * L := by
    rw [← Lns.size_list, t1]
    simp [retL]
    omega
  rw [put_img K (by omega) _ (by simp; omega), put_img K (by omega) _ (by simp; omega), parse_img K (by omega) s (by omega) (by omega), parse_img K (by omega) t (by omega) (by omega)]
  have ls : splitL s ⟨#[10]⟩ = List.replicate N (ofL funcL) ++ [ofL []] := by
    rw [splitL_eq, s1]
    have := lns_rep funcL (by decide) [] N
    rw [List.append_nil] at this
    show (lns ([] ++ _)).map ofL = _
    rw [List.nil_append, this, List.map_append, List.map_replicate]
    rfl
  have lt_ : splitL t ⟨#[10]⟩ = ofL funcL :: (List.replicate L (ofL retL) ++ [ofL []]) := by
    rw [splitL_eq, t1]
    have := lns_rep retL (by decide) [] L
    rw [List.append_nil] at this
    show (lns (funcL ++ 10 :: (List.replicate L (retL ++ [10])).flatten)).map ofL = _
    rw [lns_cons _ _ (by decide), this, List.map_cons, List.map_append, List.map_replicate]
    rfl
  rw [ls, lt_]
  have w1 : Wf (List.replicate N ([] : List S27)) ↔ N ≤ 64 := ⟨fun h => by have := h.1; simpa using this, fun h => ⟨by simpa using h, fun r hr => by rw [List.eq_of_mem_replicate hr]; simp⟩⟩
  have w2 : Wf [List.replicate L (⟨25, 0⟩ : S27)] ↔ L ≤ 512 := ⟨fun h => by have := h.2 _ (List.mem_cons_self ..); simpa using this, fun h => ⟨by simp, fun r hr => by rw [List.mem_singleton.1 hr]; simpa using h⟩⟩
  have r1 : rtI (List.replicate N ([] : List S27)) := fun f hf => by rw [List.eq_of_mem_replicate hf]; intro x hx; cases hx
  have r2 : rtI [List.replicate L (⟨25, 0⟩ : S27)] := fun f hf => by rw [List.mem_singleton.1 hf]; exact rt_ret L
  have run1 : run [] 0 (List.replicate N (ofL funcL) ++ [ofL []]) = if N ≤ 64 then (List.replicate N [], 0, 0) else ([], 64, 22) := by
    by_cases h : N ≤ 64
    · rw [if_pos h, run_func _ N [] 0 (by simpa using h), run_cons, stp_empty, if_pos rfl]
      rfl
    · rw [if_neg h, show N = 64 + 1 by omega, List.replicate_succ' (n := 64), List.append_assoc, run_func _ 64 [] 0 (by show 0 + 64 ≤ 64; omega), List.singleton_append, run_cons, stp_full _ (by rw [List.nil_append, List.length_replicate]), if_neg (show ¬ (22 : Int) = 0 by omega)]
      rfl
  have run2 : run [] 0 (ofL funcL :: (List.replicate L (ofL retL) ++ [ofL []])) = if L ≤ 512 then ([List.replicate L ⟨25, 0⟩], 0, 0) else ([], 513, 22) := by
    rw [run_cons, stp_func [] (by decide), if_pos rfl]
    show run [[]] 1 _ = _
    by_cases h : L ≤ 512
    · rw [if_pos h, run_ret _ L [] 1 (by simpa using h), run_cons, stp_empty, if_pos rfl]
      rfl
    · rw [if_neg h, show L = 512 + 1 by omega, List.replicate_succ' (n := 512), List.append_assoc, run_ret _ 512 [] 1 (by show 0 + 512 ≤ 512; omega), List.singleton_append, run_cons, stp_ret_full _ (by rw [List.nil_append, List.length_replicate]), if_neg (show ¬ (22 : Int) = 0 by omega)]
      rfl
  rw [run1, run2, if_pos r1, if_pos r2]
  by_cases g1 : N ≤ 64 <;> by_cases g2 : L ≤ 512
  · rw [if_neg (by simpa using w1.2 g1), if_neg (by simpa using w2.2 g2), if_pos g1, if_pos g2]
    simp only [b2, b3]
    have e1 : ¬ (N : Int) > 64 := by omega
    have e2 : ¬ (L : Int) > 512 := by omega
    have e3 : (N : Int) ≤ 64 := by omega
    have e4 : (L : Int) ≤ 512 := by omega
    simp [e1, e2, e3, e4]
  · rw [if_neg (by simpa using w1.2 g1), if_pos (fun q => g2 (w2.1 q)), if_pos g1, if_neg g2]
    simp only [b2, b3]
    have e1 : ¬ (N : Int) > 64 := by omega
    have e2 : (L : Int) > 512 := by omega
    have e3 : (N : Int) ≤ 64 := by omega
    have e4 : ¬ (L : Int) ≤ 512 := by omega
    simp [e1, e2, e3, e4]
  · rw [if_pos (fun q => g1 (w1.1 q)), if_neg (by simpa using w2.2 g2), if_neg g1, if_pos g2]
    simp only [b2, b3]
    have e1 : (N : Int) > 64 := by omega
    have e2 : ¬ (L : Int) > 512 := by omega
    have e3 : ¬ (N : Int) ≤ 64 := by omega
    have e4 : (L : Int) ≤ 512 := by omega
    simp [e1, e2, e3, e4]
  · rw [if_pos (fun q => g1 (w1.1 q)), if_pos (fun q => g2 (w2.1 q)), if_neg g1, if_neg g2]
    simp only [b2, b3]
    have e1 : (N : Int) > 64 := by omega
    have e2 : (L : Int) > 512 := by omega
    have e3 : ¬ (N : Int) ≤ 64 := by omega
    have e4 : ¬ (L : Int) ≤ 512 := by omega
    simp [e1, e2, e3, e4]
end Go.Proofs.YtiilloijkbabbaaDoor.Pure
