import Derived.Test.YtiilloijkbabbaaGreatDoorG0
import Derived.Test.YtiilloijkbabbaaGreatDoorG1
import Derived.Test.YtiilloijkbabbaaGreatDoorG2
import Derived.Test.YtiilloijkbabbaaGreatDoorG3
import Derived.Test.YtiilloijkbabbaaGreatDoorG5
import Derived.Test.YtiilloijkbabbaaGreatDoorG6
import Derived.Test.YtiilloijkbabbaaGreatDoorImgB
import Derived.Test.YtiilloijkbabbaaGreatDoorCode
/- Put, Text and Same return the documented results, and Take and Parse invert Put and Text. No condition. -/
set_option linter.unusedVariables false
set_option linter.unusedSimpArgs false
namespace Go.Proofs.YtiilloijkbabbaaGreatDoor.Pure
open Go Go.Fw Go.RowKit Go.Proofs.YtiilloijkbabbaaGreatDoor.G Go.Proofs.YtiilloijkbabbaaGreatDoor.Pack Go.Proofs.YtiilloijkbabbaaGreatDoor.Txt Go.Proofs.YtiilloijkbabbaaGreatDoor.Ins Go.Proofs.YtiilloijkbabbaaGreatDoor.Lns Go.Proofs.YtiilloijkbabbaaGreatDoor.Img

theorem known_t : ∃ K, 100000 ≤ K ∧ confidantlaw7_known.f K = some true := ⟨100000, Nat.le_refl _, by kernel_rfl⟩
theorem step (K : Nat) (hK : 100000 ≤ K) (x m : Im) (h1 : x.length ≤ 12) (h2 : ∀ r ∈ x, r.length ≤ 62) (hi : i32I x) (l20 : List Int) (hB : IsB l20) (hl : l20.length ≤ 20) (J : Option Bool) :
    (lt (fun (j0 : List Int) (j1 : List Int) => J) fun i9 => (b2 (image_Put.f K x) fun (a9 : List Int) (e0 : Int) => (b2 (confidantref5_ImagePut.f K x) fun (a8 : List Int) (b8 : Int) => (lt (fun (f8 : Bool) => (if f8 = true then (some false) else (if b8 = 0 then (if (([] : List Int).length + a8.length) * 1 ≤ 140737488355328 then (lt (([] : List Int) ++ a8) fun f1 => (if (f1.length + l20.length) * 1 ≤ 140737488355328 then (lt (f1 ++ l20) fun d4 => (b2 (pack_New.f K d4) fun (e1 : List Int) (m0 : Int) => (b4 (image_Take.f K e1 m0) fun (d3 : List Int) (e2 : Int) (c0 : List (List S59)) (e3 : Bool) => (b1 (image_Text.f K x) fun (m1 : ByteArray) => (b3 (image_Parse.f K m1) fun (c4 : List (List S59)) (p6 : Int) (c3 : Int) => (lt (fun (g5 : List Int) (j2 : Int) (f9 : Bool) => (if f9 = true then (some false) else (i9 a8 a9))) fun e9 => (if e3 = true then (b1 (confidantref5_Same.f K x c0) fun (d5 : Bool) => (if d5 = true then (b3 (pack_Reader_Left.f K d3 e2) fun (e4 : List Int) (e6 : Int) (d0 : Int) => (if d0 = (l20.length : Int) then (if c3 = 0 then (b1 (confidantref5_Same.f K x c4) fun (f3 : Bool) => (e9 e4 e6 (!(f3)))) else (e9 e4 e6 true)) else (e9 e4 e6 true))) else (e9 d3 e2 true))) else (e9 d3 e2 true)))))))) else none)) else none) else (i9 a8 a9)))) fun f5 => (if e0 = b8 then (if ((bStr a9).toList == (bStr a8).toList) = true then (b1 (image_Text.f K x) fun (d1 : ByteArray) => (b1 (confidantref5_ImageText.f K x) fun (d2 : ByteArray) => (if (d1.toList == d2.toList) = true then (b1 (image_Same.f K x m) fun (e5 : Bool) => (b1 (confidantref5_Same.f K x m) fun (f2 : Bool) => (f5 (!((e5 == f2)))))) else (f5 true)))) else (f5 true)) else (f5 true)))))) = J := by
  have hwf : Wf x := ⟨by omega, fun r hr => by have := h2 r hr; omega⟩
  obtain ⟨s, s1, s2⟩ := text_img K (by omega) x hwf (by omega) (fun r hr => by have := h2 r hr; omega) hi
  obtain ⟨s', t1, t2⟩ := rtext_img K (by omega) x hwf (by omega) (fun r hr => by have := h2 r hr; omega) hi
  have hss : s' = s := by rw [eq_ofL s', eq_ofL s, s1, t1]
  subst hss
  have hsame := rsame K x x ⟨by omega, by omega⟩ (fun r hr => by have := h2 r hr; omega)
  rw [put_img K (by omega) x (by omega), rput_img K (by omega) x (by omega), same_img K x m ⟨by omega, by omega⟩ (fun r hr => by have := h2 r hr; omega), rsame K x m ⟨by omega, by omega⟩ (fun r hr => by have := h2 r hr; omega), s2, t2]
  by_cases h : rtI x
  · have e := textD_len 62 x hi h2
    have e2 : (5 + 43 * 62) * x.length ≤ 32052 := by omega
    have hsz : s'.size ≤ 32052 := by rw [← Lns.size_list, s1]; omega
    have hb := bodyB_len2 62 x h2
    have hn := enc_len x.length
    have hlen : (enc x.length ++ bodyB x).length ≤ 16511 := by rw [List.length_append]; omega
    have hBB : IsB ((enc x.length ++ bodyB x) ++ l20) := ((enc_B _).app (bodyB_B x)).app hB
    have ht := take_img K (by omega) ((enc x.length ++ bodyB x) ++ l20) hBB (by rw [List.length_append]; omega)
    rw [takeIm_back x hwf h hi l20] at ht
    have hp := parse_img K (by omega) s' (by omega) (by omega)
    rw [run_img x hwf h hi s' s1] at hp
    simp only [if_neg (not_not_intro hwf), if_pos h, lt, b1, b2, beq_self_eq_true, Bool.not_true]
    rw [if_pos trivial, if_pos trivial, if_pos trivial, if_neg (by simp), if_pos trivial, if_pos (by simp only [List.length_nil]; omega)]
    rw [if_pos (by simp only [List.nil_append]; omega), List.nil_append]
    simp only [pack_New.f, b2]
    rw [ht]
    simp only [b4, b3, hp, hsame, pack_Reader_Left.f, b1]
    simp
  · simp only [if_neg (not_not_intro hwf), if_neg h, lt, b1, b2, beq_self_eq_true, Bool.not_true]
    rw [if_pos trivial, if_pos trivial, if_pos trivial, if_neg (by simp), if_neg (by omega)]
theorem loop (K : Nat) (hK : 100000 ≤ K) (m : Im) (l : List Im) (hl : l.length ≤ 100) (h1 : ∀ x ∈ l, x.length ≤ 12) (h2 : ∀ x ∈ l, ∀ r ∈ x, r.length ≤ 62) (hi : ∀ x ∈ l, i32I x) (l20 : List Int) (hB : IsB l20) (hl2 : l20.length ≤ 20) : ∀ (d n i : Nat), i + d = l.length → d < n → confidantlaw7_ImageTells.l0 K l l20 m n (i : Int) = some true := by
  intro d
  induction d with
  | zero =>
    intro n i hd hn
    obtain ⟨n, rfl⟩ : ∃ k, n = k + 1 := ⟨n - 1, by omega⟩
    rw [confidantlaw7_ImageTells.l0.eq_2, if_neg (by omega)]
  | succ d ih =>
    intro n i hd hn
    obtain ⟨n, rfl⟩ : ∃ k, n = k + 1 := ⟨n - 1, by omega⟩
    have hw : IntKind.i64.wrap ((i : Int) + 1) = ((i + 1 : Nat) : Int) := by rw [w64_id (by omega) (by omega)]; omega
    have hm : l.getD i [] ∈ l := getD_mem l i [] (by omega)
    rw [confidantlaw7_ImageTells.l0.eq_2, if_pos (by omega), hw, Int.toNat_natCast, ih n (i + 1) (by omega) (by omega)]
    exact Eq.trans (congrArg (lt (fun (_ _ : List Int) => some true)) (funext fun g4 => if_pos (show (0 : Int) ≤ (i : Int) by omega))) (step K hK _ m (h1 _ hm) (h2 _ hm) (hi _ hm) l20 hB hl2 (some true))
theorem small (K : Nat) (m : Im) (hK : 100 ≤ K) : ∃ b, confidanthelp_SmallImage.f K m = some b ∧ (b = true → m.length ≤ 8 ∧ ∀ r ∈ m, r.length ≤ 40) := by
  unfold confidanthelp_SmallImage.f
  by_cases h : (m.length : Int) > 8
  · exact ⟨false, by rw [if_pos h], nofun⟩
  rw [if_neg h]
  have : ∀ (d n i : Nat), i + d = m.length → d < n → ∃ b, confidanthelp_SmallImage.l0 K m n (i : Int) = some b ∧ (b = true → ∀ r ∈ m.drop i, r.length ≤ 40) := by
    intro d
    induction d with
    | zero =>
      intro n i hd hn
      obtain ⟨n, rfl⟩ : ∃ k, n = k + 1 := ⟨n - 1, by omega⟩
      exact ⟨true, by rw [confidanthelp_SmallImage.l0.eq_2, if_neg (by omega)], fun _ r hr => by rw [List.drop_eq_nil_of_le (by omega)] at hr; exact nomatch hr⟩
    | succ d ih =>
      intro n i hd hn
      obtain ⟨n, rfl⟩ : ∃ k, n = k + 1 := ⟨n - 1, by omega⟩
      have hw : IntKind.i64.wrap ((i : Int) + 1) = ((i + 1 : Nat) : Int) := by rw [w64_id (by omega) (by omega)]; omega
      have hd1 : m.drop i = m.getD i [] :: m.drop (i + 1) := by
        rw [List.drop_eq_getElem_cons (by omega), List.getD_eq_getElem?_getD, List.getElem?_eq_getElem (by omega)]
        rfl
      rw [confidanthelp_SmallImage.l0.eq_2, if_pos (by omega), if_pos (by omega), hw, Int.toNat_natCast, hd1]
      by_cases hh : ((m.getD i []).length : Int) > 40
      · exact ⟨false, by rw [if_pos hh], nofun⟩
      · rw [if_neg hh]
        obtain ⟨b, e1, e2⟩ := ih n (i + 1) (by omega) (by omega)
        refine ⟨b, e1, fun hb r hr => ?_⟩
        rcases List.mem_cons.1 hr with rfl | hr
        · omega
        · exact e2 hb r hr
  obtain ⟨b, e1, e2⟩ := this m.length K 0 (by omega) (by omega)
  exact ⟨b, e1, fun hb => ⟨by omega, fun r hr => e2 hb r (by rw [List.drop_zero]; exact hr)⟩⟩
theorem ImageTells : confidantlaw7_ImageTells.Pure := by
  intro l12 l15 a18 a19 l20 hl hw hl5 hw5 h18 h19 hl20 hw20
  obtain ⟨K, hK, hk⟩ := known_t
  refine ⟨K, ?_⟩
  have u18 := is_u8 h18
  have u19 := is_u8 h19
  obtain ⟨b, sm1, sm2⟩ := small K l12 (by omega)
  unfold confidantlaw7_ImageTells.f
  rw [hk, sm1]
  simp only [b1, lt]
  rw [if_pos trivial]
  by_cases hb0 : b = false
  · rw [if_neg (by rw [hb0]; simp), if_pos trivial]
  have hb : b = true := by simpa using hb0
  rw [if_pos hb]
  obtain ⟨q1, q2⟩ := sm2 hb
  by_cases g1 : (l15.length : Int) > 60
  · rw [if_pos g1, if_pos trivial]
  rw [if_neg g1]
  by_cases g2 : (l20.length : Int) > 20
  · rw [if_pos (decide_eq_true g2)]
  rw [if_neg (by rw [decide_eq_false g2]; simp)]
  have e1 : IntKind.i64.wrap ((IntKind.i64.wrap (Int.tmod a18 4)) + 1) = (((a18 % 4).toNat + 1 : Nat) : Int) := by rw [Int.tmod_eq_emod_of_nonneg u18.1, w64_id (x := a18 % 4) (by omega) (by omega), w64_id (by omega) (by omega)]; omega
  have e2 : IntKind.i64.wrap (Int.tmod a19 3) = a19 % 3 := by rw [Int.tmod_eq_emod_of_nonneg u19.1, w64_id (by omega) (by omega)]
  obtain ⟨m, hm, hm2, hmg⟩ := Code.code_some K ((a18 % 4).toNat + 1) l15 4 (a19 % 3) false (by omega) (by omega) hw5 (by omega) (by omega) (by omega)
  rw [e1, e2, hm]
  simp only [List.length_nil, List.nil_append]
  rw [if_pos (by omega), if_pos (by omega)]
  have hil : i32I l12 := fun r hr x hx => is_i32 ((hw r hr).2 x hx).2.1
  have him : i32I m := fun r hr x hx => ((hmg r hr).1 x hx).2
  refine loop K hK m [l12, m, m ++ l12] (by simp) ?_ ?_ ?_ l20 (IsB.of hw20) (by omega) 3 K 0 (by simp) (by omega)
  · intro e he
    simp only [List.mem_cons, List.not_mem_nil, or_false] at he
    rcases he with rfl | rfl | rfl
    · omega
    · omega
    · rw [List.length_append]; omega
  · intro e he r hr
    simp only [List.mem_cons, List.not_mem_nil, or_false] at he
    rcases he with rfl | rfl | rfl
    · have := q2 r hr; omega
    · exact (hmg r hr).2.2
    · rcases List.mem_append.1 hr with hr | hr
      · exact (hmg r hr).2.2
      · have := q2 r hr; omega
  · intro e he
    simp only [List.mem_cons, List.not_mem_nil, or_false] at he
    rcases he with rfl | rfl | rfl
    · exact hil
    · exact him
    · intro r hr
      rcases List.mem_append.1 hr with hr | hr
      · exact him r hr
      · exact hil r hr
end Go.Proofs.YtiilloijkbabbaaGreatDoor.Pure
