import Derived.Test.YtiilloijkbabbaaGreatDoorG0
import Derived.Test.YtiilloijkbabbaaGreatDoorG1
import Derived.Test.YtiilloijkbabbaaGreatDoorG4
import Derived.Test.YtiilloijkbabbaaGreatDoorG6
import Derived.Test.YtiilloijkbabbaaGreatDoorImgL
import Derived.Test.YtiilloijkbabbaaGreatDoorCode
/- Take and Parse return the documented results for arbitrary and modified bytes and for arbitrary lines. No condition. -/
set_option linter.unusedVariables false
set_option linter.unusedSimpArgs false
namespace Go.Proofs.YtiilloijkbabbaaGreatDoor.Pure
open Go Go.Fw Go.RowKit Go.Proofs.YtiilloijkbabbaaGreatDoor.G Go.Proofs.YtiilloijkbabbaaGreatDoor.Pack Go.Proofs.YtiilloijkbabbaaGreatDoor.Txt Go.Proofs.YtiilloijkbabbaaGreatDoor.Ins Go.Proofs.YtiilloijkbabbaaGreatDoor.Lns Go.Proofs.YtiilloijkbabbaaGreatDoor.Img

theorem known_r : ∃ K, 30000 ≤ K ∧ confidantlaw7_known.f K = some true := ⟨30000, Nat.le_refl _, by kernel_rfl⟩
theorem some_l (K : Nat) (l : List Int) (a0 : List ByteArray) (hw : ∀ x ∈ l, (Lit.int .u8 x).wf = true) (hl : l.length ≤ 1000) (h0 : 0 < a0.length ∧ a0.length ≤ 100) (ha : ∀ x ∈ a0, x.size ≤ 16) : ∀ (d n i : Nat) (b : ByteArray), i + d = l.length → d < n → b.size ≤ 17 * i →
    ∃ s : ByteArray, confidantlaw7_some.l0 K l a0 n b (i : Int) = some s ∧ s.size ≤ 17 * l.length := by
  intro d
  induction d with
  | zero =>
    intro n i b hd hn hb
    obtain ⟨n, rfl⟩ : ∃ k, n = k + 1 := ⟨n - 1, by omega⟩
    exact ⟨b, by rw [confidantlaw7_some.l0.eq_2, if_neg (by omega)], by omega⟩
  | succ d ih =>
    intro n i b hd hn hb
    obtain ⟨n, rfl⟩ : ∃ k, n = k + 1 := ⟨n - 1, by omega⟩
    have hwi : IntKind.i64.wrap ((i : Int) + 1) = ((i + 1 : Nat) : Int) := by rw [w64_id (by omega) (by omega)]; omega
    have hx := is_u8 (hw _ (getD_mem l i 0 (by omega)))
    rw [confidantlaw7_some.l0.eq_2, if_pos (by omega), if_pos (by omega), if_neg (by omega), hwi, Int.toNat_natCast]
    generalize l.getD i 0 = x at *
    have hw2 : IntKind.i64.wrap x = x := w64_id (by omega) (by omega)
    have m1 : 0 ≤ Int.tmod x (a0.length : Int) ∧ Int.tmod x (a0.length : Int) < (a0.length : Int) := by
      rw [Int.tmod_eq_emod_of_nonneg hx.1]
      exact ⟨Int.emod_nonneg _ (by omega), Int.emod_lt_of_pos _ (by omega)⟩
    have hs := ha _ (getD_mem a0 (Int.tmod x (a0.length : Int)).toNat ⟨#[]⟩ (by omega))
    have h10 : (⟨#[10]⟩ : ByteArray).size = 1 := rfl
    rw [hw2, if_pos m1.1, if_pos m1.2, if_pos (by omega), if_pos (by rw [ByteArray.size_append, h10]; omega)]
    exact ih n (i + 1) _ (by omega) (by omega) (by rw [ByteArray.size_append, ByteArray.size_append, h10]; omega)
theorem some_f (K : Nat) (l : List Int) (hw : ∀ x ∈ l, (Lit.int .u8 x).wf = true) (hl : l.length ≤ 1000) (hK : l.length < K) : ∃ s : ByteArray, confidantlaw7_some.f K l = some s ∧ s.size ≤ 17 * l.length := by
  unfold confidantlaw7_some.f
  simp only [lt]
  exact some_l K l _ hw hl (by decide) (by decide) l.length K 0 (⟨#[]⟩ : ByteArray) (by omega) hK (by decide)
theorem loop1 (K : Nat) (hK : 30000 ≤ K) (l : List ByteArray) (hl : l.length ≤ 100) (ha : ∀ e ∈ l, e.size ≤ 1000) : ∀ (d n i : Nat), i + d = l.length → d < n → confidantlaw7_ImageReads.l1 K l n (i : Int) = some true := by
  intro d
  induction d with
  | zero =>
    intro n i hd hn
    obtain ⟨n, rfl⟩ : ∃ k, n = k + 1 := ⟨n - 1, by omega⟩
    rw [confidantlaw7_ImageReads.l1.eq_2, if_neg (by omega)]
  | succ d ih =>
    intro n i hd hn
    obtain ⟨n, rfl⟩ : ∃ k, n = k + 1 := ⟨n - 1, by omega⟩
    have hw : IntKind.i64.wrap ((i : Int) + 1) = ((i + 1 : Nat) : Int) := by rw [w64_id (by omega) (by omega)]; omega
    have hs := ha _ (getD_mem l i ⟨#[]⟩ (by omega))
    have h1 := parse_img K (by omega) (l.getD i ⟨#[]⟩) (by omega) (by omega)
    have h2 := rparse_img K (by omega) (l.getD i ⟨#[]⟩) hs
    have h3 := run_wf (splitL (l.getD i ⟨#[]⟩) ⟨#[10]⟩) [] 0 ⟨by simp, by intro r hr; cases hr⟩
    rw [confidantlaw7_ImageReads.l1.eq_2, if_pos (by omega), hw, Int.toNat_natCast, ih n (i + 1) (by omega) (by omega), if_pos (show (0 : Int) ≤ (i : Int) by omega), h1, h2]
    generalize run [] 0 (splitL (l.getD i ⟨#[]⟩) ⟨#[10]⟩) = t at *
    obtain ⟨t1, t2, t3⟩ := t
    have h4 := rsame K t1 t1 ⟨by have := h3.1; simp only at this; omega, by have := h3.1; simp only at this; omega⟩ (fun r hr => by have := h3.2 r hr; omega)
    simp only [b3, lt]
    rw [if_pos trivial, if_pos trivial, h4]
    simp [b1]
theorem loop0 (K : Nat) (hK : 30000 ≤ K) (l : List (List Int)) (hl : l.length ≤ 100) (ha : ∀ e ∈ l, IsB e ∧ e.length ≤ 20000) (g2 : List (List Int) → Option Bool) : ∀ (d n i : Nat), i + d = l.length → d < n → confidantlaw7_ImageReads.l0 K l g2 n (i : Int) = g2 l := by
  intro d
  induction d with
  | zero =>
    intro n i hd hn
    obtain ⟨n, rfl⟩ : ∃ k, n = k + 1 := ⟨n - 1, by omega⟩
    rw [confidantlaw7_ImageReads.l0.eq_2, if_neg (by omega)]
  | succ d ih =>
    intro n i hd hn
    obtain ⟨n, rfl⟩ : ∃ k, n = k + 1 := ⟨n - 1, by omega⟩
    have hw : IntKind.i64.wrap ((i : Int) + 1) = ((i + 1 : Nat) : Int) := by rw [w64_id (by omega) (by omega)]; omega
    obtain ⟨hB, hz⟩ := ha _ (getD_mem l i [] (by omega))
    have h1 := take_img K (by omega) (l.getD i []) hB hz
    have h2 := rtake_img K (by omega) (l.getD i []) hB hz
    have h3 := takeIm_ok (l.getD i []) hB
    rw [confidantlaw7_ImageReads.l0.eq_2, if_pos (by omega), hw, Int.toNat_natCast, ih n (i + 1) (by omega) (by omega), if_pos (show (0 : Int) ≤ (i : Int) by omega)]
    simp only [pack_New.f, b2]
    rw [h1, h2]
    generalize takeIm (l.getD i []) = t at *
    obtain ⟨t1, t2, t3, t4⟩ := t
    simp only at h3
    have h4 := rsame K t3 t3 ⟨by omega, by omega⟩ (fun r hr => by have := h3.2 r hr; omega)
    simp only [b4, lt, h4, b1, pack_Reader_Left.f, b3, beq_self_eq_true]
    cases t4 <;> simp
theorem ImageReads : confidantlaw7_ImageReads.Pure := by
  intro l13 a16 l17 l20 a23 a24 h13 hw13 h16 h17 hw17 h20 hw20 h23 h24
  obtain ⟨K, hK, hk⟩ := known_r
  refine ⟨K, ?_⟩
  have u23 := is_u16 h23
  have u24 := is_u8 h24
  unfold confidantlaw7_ImageReads.f
  rw [hk]
  simp only [b1, lt]
  rw [if_pos trivial]
  by_cases g1 : (l13.length : Int) > 80
  · rw [if_pos g1, if_pos trivial]
  rw [if_neg g1]
  by_cases g2 : (a16.size : Int) > 100
  · rw [if_pos g2, if_pos trivial]
  rw [if_neg g2]
  by_cases g3 : (l17.length : Int) > 40
  · rw [if_pos g3, if_pos trivial]
  rw [if_neg g3]
  by_cases g4 : (l20.length : Int) > 30
  · rw [decide_eq_true g4, if_pos rfl]
  rw [decide_eq_false g4, if_neg (by simp)]
  obtain ⟨m, hm, hm2, hmg⟩ := Code.code_some K 2 l17 4 1 false (by omega) (by omega) hw17 (by omega) (by omega) (by omega)
  rw [show ((2 : Nat) : Int) = 2 from rfl] at hm
  rw [hm]
  have hwf : Wf m := ⟨by omega, fun r hr => by have := (hmg r hr).2.2; omega⟩
  have hrt : rtI m := fun r hr x hx => ((hmg r hr).1 x hx).1
  simp only
  rw [rput_img K (by omega) m (by omega), if_neg (by simp [hwf]), if_pos hrt]
  have hcB : ∀ f : List S59, IsB (codeB f) := fun f y hy => by
    unfold codeB at hy
    obtain ⟨z, hz, hy⟩ := List.mem_flatten.1 hy
    obtain ⟨x, _, rfl⟩ := List.mem_map.1 hz
    exact encs_B _ y hy
  have hbB : IsB (bodyB m) := fun y hy => by
    unfold bodyB at hy
    obtain ⟨z, hz, hy⟩ := List.mem_flatten.1 hy
    obtain ⟨f, _, rfl⟩ := List.mem_map.1 hz
    exact ((enc_B _).app (hcB f)) y hy
  have hlen : (bodyB m).length ≤ 1375 * m.length := by
    clear hbB hwf hrt hm hm2
    induction m with
    | nil => simp [bodyB]
    | cons f m ih =>
      have h1 := ih (fun r hr => hmg r (List.mem_cons_of_mem _ hr))
      have h2 := codeB_len f
      have h3 := enc_len f.length
      have h4 := (hmg f (List.mem_cons_self ..)).2.2
      unfold bodyB at h1 ⊢
      simp only [List.map_cons, List.flatten_cons, List.length_append, List.length_cons]
      omega
  have hB : IsB (enc m.length ++ bodyB m) := (enc_B _).app hbB
  have he := enc_len m.length
  have he0 := enc_pos m.length
  have hz : (enc m.length ++ bodyB m).length ≤ 2800 ∧ 0 < (enc m.length ++ bodyB m).length := by rw [List.length_append]; omega
  generalize enc m.length ++ bodyB m = b at *
  have hw23 : IntKind.i64.wrap a23 = a23 := w64_id (by omega) (by omega)
  have m1 : 0 ≤ Int.tmod a23 (b.length : Int) ∧ Int.tmod a23 (b.length : Int) < (b.length : Int) := by
    rw [Int.tmod_eq_emod_of_nonneg u23.1]
    exact ⟨Int.emod_nonneg _ (by omega), Int.emod_lt_of_pos _ (by omega)⟩
  have hBx : ∀ p q : Int, ∃ c : Nat, bX .u8 p q = (c : Int) ∧ c < 256 := fun p q => by
    unfold bX
    generalize ((BitVec.ofInt IntKind.u8.bits p ^^^ BitVec.ofInt IntKind.u8.bits q).toNat : Int) = m
    rw [wu8]
    exact ⟨(m % 256).toNat, by omega, by omega⟩
  simp only [b2, List.nil_append, List.length_nil, hw23]
  rw [if_pos (by omega), if_neg (by omega), if_pos m1.1, if_pos m1.2, if_neg (by omega), if_pos m1.1, if_pos (by omega)]
  have l0 : ∀ g2, confidantlaw7_ImageReads.l0 K [l13, b, b.set (Int.tmod a23 (b.length : Int)).toNat (bX .u8 (b.getD (Int.tmod a23 (b.length : Int)).toNat 0) a24), b.take (Int.tmod a23 (b.length : Int)).toNat] g2 K 0 = g2 _ := fun g2 => loop0 K hK [l13, b, b.set (Int.tmod a23 (b.length : Int)).toNat (bX .u8 (b.getD (Int.tmod a23 (b.length : Int)).toNat 0) a24), b.take (Int.tmod a23 (b.length : Int)).toNat] (by simp) (by
    intro e he
    simp only [List.mem_cons, List.not_mem_nil, or_false] at he
    rcases he with rfl | rfl | rfl | rfl
    · exact ⟨IsB.of hw13, by omega⟩
    · exact ⟨hB, by omega⟩
    · refine ⟨fun y hy => ?_, by rw [List.length_set]; omega⟩
      rcases List.mem_or_eq_of_mem_set hy with hy | rfl
      · exact hB y hy
      · exact hBx _ _
    · exact ⟨hB.take _, by rw [List.length_take]; omega⟩) g2 4 K 0 (by simp) (by omega)
  rw [l0]
  obtain ⟨s, hs1, hs2⟩ := some_f K l20 hw20 (by omega) (by omega)
  have h5 : (⟨#[102, 117, 110, 99, 10]⟩ : ByteArray).size = 5 := rfl
  simp only [hs1]
  rw [if_pos (by rw [h5]; omega)]
  have l1 := loop1 K hK [a16, s, (⟨#[102, 117, 110, 99, 10]⟩ : ByteArray) ++ s] (by simp) (by
    intro e he
    simp only [List.mem_cons, List.not_mem_nil, or_false] at he
    rcases he with rfl | rfl | rfl
    · omega
    · omega
    · rw [ByteArray.size_append, h5]; omega) 3 K 0 (by simp) (by omega)
  exact l1
end Go.Proofs.YtiilloijkbabbaaGreatDoor.Pure
