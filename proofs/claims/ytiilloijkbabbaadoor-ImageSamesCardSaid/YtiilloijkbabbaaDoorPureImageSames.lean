import Derived.Test.YtiilloijkbabbaaDoorG0
import Derived.Test.YtiilloijkbabbaaDoorG1
import Derived.Test.YtiilloijkbabbaaDoorG3
import Derived.Test.YtiilloijkbabbaaDoorImgB
import Derived.Test.YtiilloijkbabbaaDoorCode
/- Images that differ at one place differ, as bytes and as texts too. No condition. -/
set_option linter.unusedVariables false
set_option linter.unusedSimpArgs false
namespace Go.Proofs.YtiilloijkbabbaaDoor.Pure
open Go Go.Fw Go.RowKit Go.Proofs.YtiilloijkbabbaaDoor.G Go.Proofs.YtiilloijkbabbaaDoor.Pack Go.Proofs.YtiilloijkbabbaaDoor.Txt Go.Proofs.YtiilloijkbabbaaDoor.Ins Go.Proofs.YtiilloijkbabbaaDoor.Lns Go.Proofs.YtiilloijkbabbaaDoor.Img

theorem known_s : ∃ K, 100000 ≤ K ∧ confidantlaw7_known.f K = some true := ⟨100000, Nat.le_refl _, by kernel_rfl⟩
theorem set_self {α : Type} (l : List α) (i : Nat) (z : α) (h : i < l.length) : l.set i (l.getD i z) = l := by
  rw [List.getD_eq_getElem?_getD, List.getElem?_eq_getElem h]
  exact List.set_getElem_self h
theorem get_set {α : Type} (l : List α) (i : Nat) (x z : α) (h : i < l.length) : (l.set i x).getD i z = x := by
  rw [List.getD_eq_getElem?_getD, List.getElem?_set_self h]
  rfl
theorem same_iff (m : Im) (c k : Nat) (x : S27) (hc : c < m.length) (hk : k < (m.getD c []).length) : m = m.set c ((m.getD c []).set k x) ↔ (m.getD c []).getD k zS27 = x := by
  constructor
  · intro h
    have h1 : m.getD c [] = (m.getD c []).set k x := by
      have := congrArg (fun q : Im => q.getD c []) h
      simp only [get_set m c _ _ hc] at this
      exact this
    have h2 := congrArg (fun q : List S27 => q.getD k zS27) h1
    simp only [get_set _ k x _ hk] at h2
    exact h2
  · intro h
    rw [← h, set_self _ _ _ hk, set_self _ _ _ hc]
theorem put_inj (m n : Im) (hm : Wf m) (hr : rtI m) (hi : i32I m) (hn : Wf n) (hr' : rtI n) (hi' : i32I n) (h : enc m.length ++ bodyB m = enc n.length ++ bodyB n) : m = n := by
  have h1 := takeIm_back m hm hr hi []
  have h2 := takeIm_back n hn hr' hi' []
  rw [h, h2] at h1
  injection h1 with _ h1
  injection h1 with _ h1
  injection h1 with h1 _
  exact h1.symm
theorem text_inj2 (m n : Im) (hm : Wf m) (hr : rtI m) (hi : i32I m) (hn : Wf n) (hr' : rtI n) (hi' : i32I n) (h : textD m = textD n) : m = n := by
  have e : ∀ q : Im, (ofL (textD q)).data.toList = textD q := fun q => ofL_data _
  have h1 := run_img m hm hr hi (ofL (textD m)) (e m)
  have h2 := run_img n hn hr' hi' (ofL (textD n)) (e n)
  rw [h, h2] at h1
  injection h1 with h1 _
  exact h1.symm
theorem ImageSames : confidantlaw7_ImageSames.Pure := by
  intro l8 a11 a12 a13 a14 hl hw h11 h12 h13 h14
  obtain ⟨K, hK, hk⟩ := known_s
  refine ⟨K, ?_⟩
  have u11 := is_u8 h11
  have u12 := is_u8 h12
  have hx := is_i32 h14
  unfold confidantlaw7_ImageSames.f
  rw [hk]
  simp only [b1]
  rw [if_pos trivial]
  by_cases g1 : (l8.length : Int) > 40
  · rw [if_pos g1]
  rw [if_neg g1]
  obtain ⟨m, hm, hm2, hmg⟩ := Code.code_some K 3 l8 3 1 false (by omega) (by omega) hw (by omega) (by omega) (by omega)
  rw [show ((3 : Nat) : Int) = 3 from rfl] at hm
  rw [hm]
  simp only [lt, List.nil_append, List.length_nil, Nat.zero_add]
  have e3 : (m.length : Int) = 3 := by omega
  obtain ⟨c, hc, eJ⟩ : ∃ c : Nat, c < m.length ∧ Int.tmod (IntKind.i64.wrap a11) (m.length : Int) = (c : Int) :=
    ⟨(a11 % 3).toNat, by omega, by rw [e3, w64_id (x := a11) (by omega) (by omega), Int.tmod_eq_emod_of_nonneg u11.1]; omega⟩
  simp only [eJ, Int.toNat_natCast]
  have hrow := hmg _ (getD_mem m c [] hc)
  have hsi := fun k x hk => same_iff m c k x hc hk
  obtain ⟨row, hrw⟩ : ∃ row, m.getD c [] = row := ⟨_, rfl⟩
  rw [hrw] at hrow
  simp only [hrw] at hsi ⊢
  obtain ⟨k, hkk, eK⟩ : ∃ k : Nat, k < row.length ∧ Int.tmod (IntKind.i64.wrap a12) (row.length : Int) = (k : Int) := by
    have h0 : (0 : Int) < (row.length : Int) := by have := hrow.2.1; omega
    have h1 := Int.emod_nonneg a12 (show (row.length : Int) ≠ 0 by omega)
    have h2 := Int.emod_lt_of_pos a12 h0
    exact ⟨(a12 % (row.length : Int)).toNat, by omega, by rw [w64_id (x := a12) (by omega) (by omega), Int.tmod_eq_emod_of_nonneg u12.1]; omega⟩
  simp only [eK, Int.toNat_natCast]
  have hr1 := hrow.2.1
  have hr2 := hrow.2.2
  have hsame := eqb2 (row.getD k zS27) ⟨a13, a14⟩
  simp only at hsame
  rw [hsame]
  have hsi := hsi k ⟨a13, a14⟩ hkk
  have hset : (m.set c (row.set k (⟨a13, a14⟩ : S27))).length = m.length := List.length_set
  have hmem : ∀ r ∈ m.set c (row.set k (⟨a13, a14⟩ : S27)), r.length ≤ 62 ∧ i32C r := by
    intro r hr
    rcases List.mem_or_eq_of_mem_set hr with hr | rfl
    · exact ⟨(hmg r hr).2.2, fun x hx => ((hmg r hr).1 x hx).2⟩
    · refine ⟨by rw [List.length_set]; exact hr2, fun x hxm => ?_⟩
      rcases List.mem_or_eq_of_mem_set hxm with hxm | rfl
      · exact (hrow.1 x hxm).2
      · exact hx
  obtain ⟨n, hn⟩ : ∃ n, m.set c (row.set k (⟨a13, a14⟩ : S27)) = n := ⟨_, rfl⟩
  simp only [hn] at hsi hset hmem ⊢
  have hlen : ∀ r ∈ m, r.length ≤ 62 := fun r hr => (hmg r hr).2.2
  have wm : Wf m := ⟨by omega, fun r hr => by have := hlen r hr; omega⟩
  have wn : Wf n := ⟨by omega, fun r hr => by have := (hmem r hr).1; omega⟩
  have rm : rtI m := fun r hr x hx => ((hmg r hr).1 x hx).1
  have im : i32I m := fun r hr x hx => ((hmg r hr).1 x hx).2
  have in_ : i32I n := fun r hr => (hmem r hr).2
  have sm := fun q => same_img K m q ⟨by omega, by omega⟩ (fun r hr => by have := hlen r hr; omega)
  rw [if_pos (by omega), if_neg (by omega), if_pos (by omega), if_pos (by omega), if_pos (by omega), if_neg (by omega), if_pos (by omega), if_pos (by omega), if_pos (by omega), if_neg (by omega), if_pos (by omega), if_pos (by omega)]
  have hd1 : ¬ m = m.drop 1 := fun h => by
    have := congrArg List.length h
    rw [List.length_drop] at this
    omega
  have hdec : decide (m = n) = decide (row.getD k zS27 = ⟨a13, a14⟩) := decide_eq_decide.2 hsi
  rw [sm n, sm m, sm (m.drop 1), hdec]
  simp only [beq_self_eq_true, if_true, decide_true, decide_eq_false hd1]
  rw [if_pos (by omega), if_pos (by omega), if_neg (by simp)]
  rw [put_img K (by omega) m (by omega), put_img K (by omega) n (by omega), if_neg (not_not_intro wm), if_neg (not_not_intro wn), if_pos rm]
  simp only [b2]
  by_cases rn : rtI n
  · obtain ⟨s, s1, s2⟩ := text_img K (by omega) m wm (by omega) (fun r hr => by have := hlen r hr; omega) im
    obtain ⟨t, t1, t2⟩ := text_img K (by omega) n wn (by omega) (fun r hr => by have := (hmem r hr).1; omega) in_
    rw [if_pos rn]
    simp only []
    have hB : ∀ q : Im, IsB (enc q.length ++ bodyB q) := fun q => (enc_B _).app (bodyB_B q)
    have hp : decide (enc m.length ++ bodyB m = enc n.length ++ bodyB n) = decide (m = n) := decide_eq_decide.2 ⟨put_inj m n wm rm im wn rn in_, fun h => by rw [h]⟩
    have ht : (s.toList == t.toList) = decide (m = n) := by
      rw [ByteArray.toList_eq, ByteArray.toList_eq, s1, t1]
      by_cases h : m = n
      · rw [h, decide_eq_true rfl]; simp
      · rw [decide_eq_false h]
        exact beq_eq_false_iff_ne.2 fun e => h (text_inj2 m n wm rm im wn rn in_ e)
    rw [bStr_eq (hB m) (hB n), hp, hdec, s2, t2]
    simp only [ht, hdec]
    simp
  · rw [if_neg rn]
    simp only []
    rw [if_neg (by omega)]
end Go.Proofs.YtiilloijkbabbaaDoor.Pure
