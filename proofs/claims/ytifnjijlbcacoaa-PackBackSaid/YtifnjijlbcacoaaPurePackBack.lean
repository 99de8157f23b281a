import Derived.Test.YtifnjijlbcacoaaPack2
import Derived.Test.YtifnjijlbcacoaaG6
/- Numbers and lumps come back, in their order. No condition. -/
set_option linter.unusedVariables false
set_option linter.unusedSimpArgs false
namespace Go.Proofs.Ytifnjijlbcacoaa.Pure
open Go Go.Fw Go.RowKit Go.Proofs.Ytifnjijlbcacoaa.G Go.Proofs.Ytifnjijlbcacoaa.Pack

def ed (n k : Int) : Nat := ((confidantlaw1_edge.f 0 n k).getD 0).toNat
theorem ed_f (n k : Int) (hn : (Lit.int .u64 n).wf = true) (hk : (Lit.int .u8 k).wf = true) : ed n k < 18446744073709551616 ∧ ∀ K, confidantlaw1_edge.f K n k = some (ed n k : Int) := by
  obtain ⟨x, hx, h⟩ := edge_f n k hn hk
  have : ed n k = x := by unfold ed; rw [h]; rfl
  rw [this]; exact ⟨hx, h⟩

def blk (k n : Int) (r : List Int) : List Int := enc (ed n k) ++ enc n.toNat ++ (enc r.length ++ r)
def cat (k : Int) : List Int → List (List Int) → List Int
  | n :: ns, r :: rs => blk k n r ++ cat k ns rs
  | _, _ => []
theorem cat_snoc (k : Int) : ∀ (i : Nat) (ns : List Int) (rs : List (List Int)) (h1 : i < ns.length) (h2 : i < rs.length), cat k (ns.take (i + 1)) (rs.take (i + 1)) = cat k (ns.take i) (rs.take i) ++ blk k ns[i] rs[i]
  | _, [], _, h, _ => by simp at h
  | _, _ :: _, [], _, h => by simp at h
  | 0, n :: ns, r :: rs, _, _ => by simp [cat]
  | i + 1, n :: ns, r :: rs, h1, h2 => by
    show blk k n r ++ cat k (ns.take (i + 1)) (rs.take (i + 1)) = (blk k n r ++ cat k (ns.take i) (rs.take i)) ++ blk k (ns[i]'(by simpa using h1)) (rs[i]'(by simpa using h2))
    rw [cat_snoc k i ns rs (by simpa using h1) (by simpa using h2), List.append_assoc]
theorem cat_all (k : Int) : ∀ (ns : List Int) (rs : List (List Int)), rs.length ≤ ns.length → cat k (ns.take rs.length) rs = cat k ns rs
  | [], [], _ => rfl
  | [], _ :: _, h => by simp at h
  | _ :: _, [], _ => rfl
  | n :: ns, r :: rs, h => by
    show blk k n r ++ cat k (ns.take rs.length) rs = _
    rw [cat_all k ns rs (by simpa using h)]; rfl
theorem cat_drop (k : Int) (i : Nat) (ns : List Int) (rs : List (List Int)) (h1 : i < ns.length) (h2 : i < rs.length) : cat k (ns.drop i) (rs.drop i) = blk k ns[i] rs[i] ++ cat k (ns.drop (i + 1)) (rs.drop (i + 1)) := by
  rw [List.drop_eq_getElem_cons h1, List.drop_eq_getElem_cons h2]; rfl
theorem blk_len (k n : Int) (r : List Int) (hr : r.length ≤ 40) : (blk k n r).length ≤ 73 := by
  have h1 := enc_len (ed n k)
  have h2 := enc_len n.toNat
  have h3 := enc_len r.length
  simp [blk]; omega
theorem cat_len (k : Int) : ∀ (ns : List Int) (rs : List (List Int)), (∀ r ∈ rs, r.length ≤ 40) → (cat k ns rs).length ≤ 73 * rs.length
  | [], rs, _ => by simp [cat]
  | _ :: _, [], _ => by simp [cat]
  | n :: ns, r :: rs, h => by
    have h1 := blk_len k n r (h r (by simp))
    have h2 := cat_len k ns rs (fun r hr => h r (by simp [hr]))
    simp [cat]; omega
theorem cat_B (k : Int) : ∀ (ns : List Int) (rs : List (List Int)), (∀ r ∈ rs, IsB r) → IsB (cat k ns rs)
  | [], rs, _ => IsB.nil
  | _ :: _, [], _ => IsB.nil
  | n :: ns, r :: rs, h => by
    refine IsB.app ?_ (cat_B k ns rs (fun r hr => h r (by simp [hr])))
    exact ((enc_B _).app (enc_B _)).app ((enc_B _).app (h r (by simp)))

theorem lump_r (K : Nat) (r rest : List Int) (hr : r.length ≤ 40) (hl : rest.length ≤ 10000) (hB : IsB r) (hB2 : IsB rest) (hK : 20000 ≤ K) : pack_Reader_Lump.f K (enc r.length ++ (r ++ rest)) 0 40 = some (rest, 0, r) := by
  have h3 := enc_len r.length
  have em : IntKind.u64.wrap (mx 40 0) = 40 := by decide
  unfold pack_Reader_Lump.f
  rw [em, num_f K _ _ (by simp; omega) ((enc_B _).app (hB.app hB2)) (by simp; omega), rd_enc _ _ _ (by omega), if_neg (by omega)]
  have el : ((r ++ rest).length : Int) = (r.length : Int) + (rest.length : Int) := by simp
  simp only [b3, lt, List.nil_append, List.length_nil, Nat.zero_add]
  rw [wu64_id (by omega) (by omega), if_neg (by omega), if_pos (by omega), if_pos (by omega), Int.toNat_natCast, List.take_left, List.drop_left, if_pos (by omega)]

theorem pb_0 (K : Nat) (rs : List (List Int)) (ns : List Int) (k : Int) (j : List Int → Option Bool) (hn : ∀ x ∈ ns, (Lit.int .u64 x).wf = true) (hk : (Lit.int .u8 k).wf = true) (hl : rs.length ≤ 8) (hl2 : rs.length ≤ ns.length) (hK : 200 ≤ K) (hj : (∀ r ∈ rs, r.length ≤ 40) → j (cat k ns rs) = some true) :
    ∀ (d m i : Nat), i + d = rs.length → d < m → (∀ r ∈ rs.take i, r.length ≤ 40) → confidantlaw1_PackBack.l0 K rs ns k j m (cat k (ns.take i) (rs.take i)) (i : Int) = some true
  | 0, m, i, hd, hm, hr => by
    obtain ⟨m, rfl⟩ : ∃ k, m = k + 1 := ⟨m - 1, by omega⟩
    have : i = rs.length := by omega
    subst this
    rw [confidantlaw1_PackBack.l0.eq_2, if_neg (by omega), List.take_length, cat_all k ns rs hl2]
    rw [List.take_length] at hr
    exact hj hr
  | d + 1, m, i, hd, hm, hr => by
    obtain ⟨m, rfl⟩ : ∃ k, m = k + 1 := ⟨m - 1, by omega⟩
    have hi : i < rs.length := by omega
    have hi2 : i < ns.length := by omega
    have e1 : rs.getD (i : Int).toNat [] = rs[i] := by simp [List.getD, hi]
    have e2 : ns.getD (i : Int).toNat 0 = ns[i] := by simp [List.getD, hi2]
    have hw := hn _ (List.getElem_mem hi2)
    have hu := is_u64 hw
    obtain ⟨g1, g2⟩ := ed_f ns[i] k hw hk
    rw [confidantlaw1_PackBack.l0.eq_2, if_pos (by omega), if_pos (by omega), e1, e2]
    by_cases h40 : (rs[i].length : Int) > 40
    · rw [if_pos h40]
    rw [if_neg h40, if_pos (by omega), g2]
    have e3 : [(ed ns[i] k : Int), ns[i]] = ints [ed ns[i] k, ns[i].toNat] := by simp [ints]; omega
    have e4 : encs [ed ns[i] k, ns[i].toNat] = enc (ed ns[i] k) ++ enc ns[i].toNat := by simp [encs]
    simp only [b1, lt]
    rw [e3, put_f K _ (by intro n hn; simp at hn; rcases hn with rfl | rfl; exact g1; omega) (by simp) (by omega) (by simp; omega), e4, lump_f K _ (by omega) (by omega)]
    have hc := cat_len k (ns.take i) (rs.take i) hr
    have hc2 := enc_len (ed ns[i] k)
    have hc3 := enc_len ns[i].toNat
    have hc4 := enc_len rs[i].length
    rw [List.length_take] at hc
    simp only [List.length_append]
    rw [if_pos (by omega), if_pos (by omega), w64_id (by omega) (by omega), show ((i : Int) + 1) = ((i + 1 : Nat) : Int) by omega]
    have e5 : cat k (ns.take i) (rs.take i) ++ (enc (ed ns[i] k) ++ enc ns[i].toNat) ++ (enc rs[i].length ++ rs[i]) = cat k (ns.take (i + 1)) (rs.take (i + 1)) := by
      rw [cat_snoc k i ns rs hi2 hi]; simp [blk, List.append_assoc]
    rw [e5]
    refine pb_0 K rs ns k j hn hk hl hl2 hK hj d m (i + 1) (by omega) (by omega) fun r h' => ?_
    rw [List.take_add_one] at h'
    simp only [List.getElem?_eq_getElem hi, Option.toList_some, List.mem_append, List.mem_singleton] at h'
    rcases h' with h' | rfl
    · exact hr r h'
    · omega

theorem pb_1 (K : Nat) (rs : List (List Int)) (ns : List Int) (k : Int) (j : List Int → Int → Option Bool) (hn : ∀ x ∈ ns, (Lit.int .u64 x).wf = true) (hk : (Lit.int .u8 k).wf = true) (hl : rs.length ≤ 8) (hl2 : rs.length ≤ ns.length) (hr : ∀ r ∈ rs, r.length ≤ 40) (hB : ∀ r ∈ rs, IsB r) (hK : 20000 ≤ K) :
    ∀ (d m i : Nat), i + d = rs.length → d < m → confidantlaw1_PackBack.l1 K rs ns k j m (cat k (ns.drop i) (rs.drop i)) 0 (i : Int) = j [] 0
  | 0, m, i, hd, hm => by
    obtain ⟨m, rfl⟩ : ∃ k, m = k + 1 := ⟨m - 1, by omega⟩
    rw [confidantlaw1_PackBack.l1.eq_2, if_neg (by omega), List.drop_of_length_le (l := rs) (by omega)]
    cases ns.drop i <;> rfl
  | d + 1, m, i, hd, hm => by
    obtain ⟨m, rfl⟩ : ∃ k, m = k + 1 := ⟨m - 1, by omega⟩
    have ih := pb_1 K rs ns k j hn hk hl hl2 hr hB hK d m (i + 1) (by omega) (by omega)
    have hi : i < rs.length := by omega
    have hi2 : i < ns.length := by omega
    have e1 : rs.getD (i : Int).toNat [] = rs[i] := by simp [List.getD, hi]
    have e2 : ns.getD (i : Int).toNat 0 = ns[i] := by simp [List.getD, hi2]
    have hw := hn _ (List.getElem_mem hi2)
    have hu := is_u64 hw
    obtain ⟨g1, g2⟩ := ed_f ns[i] k hw hk
    have hri := hr _ (List.getElem_mem hi)
    have hbi := hB _ (List.getElem_mem hi)
    rw [confidantlaw1_PackBack.l1.eq_2, if_pos (by omega), e1, e2, g2, cat_drop k i ns rs hi2 hi]
    have hcl := cat_len k (ns.drop (i + 1)) (rs.drop (i + 1)) (fun r h => hr r (List.mem_of_mem_drop h))
    have hcb := cat_B k (ns.drop (i + 1)) (rs.drop (i + 1)) (fun r h => hB r (List.mem_of_mem_drop h))
    rw [List.length_drop] at hcl
    generalize cat k (ns.drop (i + 1)) (rs.drop (i + 1)) = rest at ih hcl hcb ⊢
    have h1 := enc_len (ed ns[i] k)
    have h2 := enc_len ns[i].toNat
    have h3 := enc_len rs[i].length
    have e3 : blk k ns[i] rs[i] ++ rest = enc (ed ns[i] k) ++ (enc ns[i].toNat ++ (enc rs[i].length ++ (rs[i] ++ rest))) := by simp [blk, List.append_assoc]
    have e4 : ((ns[i].toNat : Nat) : Int) = ns[i] := by omega
    rw [e3, num_f K _ _ (by simp; omega) ((enc_B _).app ((enc_B _).app ((enc_B _).app (hbi.app hcb)))) (by simp; omega), rd_enc _ _ _ g1, if_neg (by omega)]
    simp only [lt, b3, b1]
    rw [if_pos (by omega), if_pos (by omega), if_pos trivial, num_f K _ _ (by simp; omega) ((enc_B _).app ((enc_B _).app (hbi.app hcb))) (by simp; omega), rd_enc _ _ _ (by omega), if_neg (by omega), e4]
    simp only
    rw [if_pos trivial, lump_r K _ _ hri (by omega) hbi hcb hK]
    simp only
    rw [if_pos (bStr_self _)]
    show (if (!(decide ((0 : Int) = 0))) = true then some false else _) = _
    rw [if_neg (by decide), w64_id (by omega) (by omega), show ((i : Int) + 1) = ((i + 1 : Nat) : Int) by omega]
    exact ih

theorem PackBack : confidantlaw1_PackBack.Pure := by
  intro ns rs k hnl hn hrl hr hk
  obtain ⟨K, hK, hkn⟩ : ∃ K, 20000 ≤ K ∧ confidantlaw1_known.f K = some true := ⟨20000, Nat.le_refl _, by kernel_rfl⟩
  refine ⟨K, ?_⟩
  unfold confidantlaw1_PackBack.f
  simp only [hkn, b1, if_true, lt]
  by_cases h1 : (rs.length : Int) > 8
  · rw [if_pos h1]
  rw [if_neg h1]
  by_cases h2 : (ns.length : Int) < (rs.length : Int)
  · rw [if_pos (decide_eq_true h2)]
  rw [if_neg (by simpa using h2)]
  refine pb_0 K rs ns k _ hn hk (by omega) (by omega) (by omega) (fun h40 => ?_) rs.length K 0 (by omega) (by omega) (by simp)
  have hB : ∀ r ∈ rs, IsB r := fun r h => IsB.of (hr r h).2
  have hnew : pack_New.f K (cat k ns rs) = some (cat k ns rs, 0) := rfl
  rw [hnew]
  simp only [b2]
  refine Eq.trans (pb_1 K rs ns k _ hn hk (by omega) (by omega) h40 hB (by omega) rs.length K 0 (by omega) (by omega)) ?_
  rfl
end Go.Proofs.Ytifnjijlbcacoaa.Pure
