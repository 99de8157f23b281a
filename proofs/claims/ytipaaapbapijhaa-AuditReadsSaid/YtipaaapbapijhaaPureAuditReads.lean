import Derived.Test.YtipaaapbapijhaaG0
import Derived.Test.YtipaaapbapijhaaG1
import Derived.Test.YtipaaapbapijhaaG2
import Derived.Test.YtipaaapbapijhaaG3
import Derived.Test.YtipaaapbapijhaaG4
import Derived.Test.YtipaaapbapijhaaReadBack
/- Which records any bytes are, and that what was written comes back. No condition. -/
set_option linter.unusedVariables false
set_option linter.unusedSimpArgs false
namespace Go.Proofs.Ytipaaapbapijhaa.Pure
open Go Go.Fw Go.RowKit Go.Proofs.Ytipaaapbapijhaa.G Go.Proofs.Ytipaaapbapijhaa.Reads Go.Proofs.Ytipaaapbapijhaa.RightB Go.Proofs.Ytipaaapbapijhaa.ReadBack

theorem lt_all {α β : Type} {e : α} {b : α → Option β} {r : Option β} (P : α → Prop) (he : P e) (hb : ∀ x, P x → b x = r) : lt e b = r := hb e he
theorem unum_eq (x : Int) : IntKind.u64.wrap x = Int.ofNat (unum x) := by
  have : 0 ≤ IntKind.u64.wrap x := by rw [wu64]; omega
  unfold unum
  exact (Int.toNat_of_nonneg this).symm
theorem unum_lt (x : Int) : unum x < 18446744073709551616 := by unfold unum; rw [wu64]; omega
theorem nums_eq (r : S69) : [IntKind.u64.wrap r.f0, IntKind.u64.wrap r.f1, IntKind.u64.wrap r.f2, IntKind.u64.wrap (IntKind.u32.wrap r.f3), IntKind.u64.wrap r.f4, IntKind.u64.wrap r.f5] = ints (nums r) := by
  rw [unum_eq, unum_eq, unum_eq, unum_eq, unum_eq, unum_eq]; rfl
theorem nums_U (r : S69) : U64 (nums r) := by
  intro n hn
  unfold nums at hn
  simp only [List.mem_cons, List.not_mem_nil, or_false] at hn
  rcases hn with rfl | rfl | rfl | rfl | rfl | rfl <;> exact unum_lt _
theorem nums_len (r : S69) : (nums r).length = 6 := rfl
theorem flat_B : ∀ z, IsB (flat z)
  | [] => IsB.nil
  | r :: z => (encs_B _).app (flat_B z)
theorem flat_len : ∀ z : List S69, (flat z).length ≤ 66 * z.length
  | [] => by simp [flat]
  | r :: z => by
    have := flat_len z
    have h2 := encs_len (nums r)
    rw [nums_len] at h2
    simp [flat]; omega
theorem flat_ge : ∀ z : List S69, 6 * z.length ≤ (flat z).length
  | [] => by simp
  | r :: z => by
    have := flat_ge z
    have p0 := enc_pos (unum r.f0)
    have p1 := enc_pos (unum r.f1)
    have p2 := enc_pos (unum r.f2)
    have p3 := enc_pos (unum (IntKind.u32.wrap r.f3))
    have p4 := enc_pos (unum r.f4)
    have p5 := enc_pos (unum r.f5)
    have h2 : 6 ≤ (encs (nums r)).length := by unfold nums; simp only [encs, List.length_append]; omega
    simp only [flat, List.length_append, List.length_cons]; omega
theorem putl (K : Nat) (hK : 5000 ≤ K) (z : List S69) (hz : z.length ≤ 400) : ∀ (d n i : Nat) (a : List Int), i + d = z.length → d < n → a.length ≤ 20 + 66 * i →
    audit_Put.l0 K z n a (i : Int) = some (a ++ flat (z.drop i)) ∧ confidantref21_AuditPut.l0 K z n a (i : Int) = some (a ++ flat (z.drop i))
  | 0, n, i, a, hd, hn, ha => by
    obtain ⟨n, rfl⟩ : ∃ k, n = k + 1 := ⟨n - 1, by omega⟩
    rw [audit_Put.l0.eq_2, confidantref21_AuditPut.l0.eq_2, if_neg (by omega), if_neg (by omega), List.drop_of_length_le (by omega)]
    simp [flat]
  | d + 1, n, i, a, hd, hn, ha => by
    obtain ⟨n, rfl⟩ : ∃ k, n = k + 1 := ⟨n - 1, by omega⟩
    have hi : i < z.length := by omega
    have e : z.getD i zS69 = z[i] := by simp [List.getD, hi]
    have e1 : z.drop i = z[i] :: z.drop (i + 1) := List.drop_eq_getElem_cons hi
    have hel := encs_len (nums z[i])
    rw [nums_len] at hel
    obtain ⟨g1, g2⟩ := putl K hK z hz d n (i + 1) (a ++ encs (nums z[i])) (by omega) (by omega) (by rw [List.length_append]; omega)
    rw [e1, flat, ← List.append_assoc]
    refine ⟨?_, ?_⟩
    · rw [audit_Put.l0.eq_2, if_pos (by omega), if_pos (by omega)]
      simp only [lt, Int.toNat_natCast, e]
      rw [nums_eq, put_f K _ (nums_U _) (by rw [nums_len]; omega) (by omega) (by rw [nums_len]; omega)]
      simp only [b1]
      rw [if_pos (by omega), w64_id (by omega) (by omega), show ((i : Int) + 1) = ((i + 1 : Nat) : Int) by omega]
      exact g1
    · rw [confidantref21_AuditPut.l0.eq_2, if_pos (by omega), if_pos (by omega)]
      unfold confidantref1_Int.f
      simp only [lt, Int.toNat_natCast, e, b1]
      rw [nums_eq, rput_f K _ (nums_U _) (by rw [nums_len]; omega) (by omega) (by rw [nums_len]; omega)]
      simp only
      rw [if_pos (by omega), w64_id (by omega) (by omega), show ((i : Int) + 1) = ((i + 1 : Nat) : Int) by omega]
      exact g2
def putz (z : List S69) : List Int := if RightFrom z 0 then enc z.length ++ flat z else []
theorem putz_B (z : List S69) : IsB (putz z) := by unfold putz; split; exact (enc_B _).app (flat_B z); exact IsB.nil
theorem putf (K : Nat) (hK : 5000 ≤ K) (z : List S69) (hz : Fit z) : audit_Put.f K z = some (putz z) ∧ confidantref21_AuditPut.f K z = some (putz z) := by
  have hlen := hz.len
  unfold audit_Put.f confidantref21_AuditPut.f putz
  rw [right_f K (by omega) z hz, rright_f K (by omega) z hz]
  simp only [b1]
  by_cases h : RightFrom z 0
  · rw [if_pos (decide_eq_true h), if_pos (decide_eq_true h), if_pos h]
    have hns : [IntKind.u64.wrap (z.length : Int)] = ints [z.length] := by rw [wu64_id (by omega) (by omega)]; rfl
    have hU : U64 [z.length] := fun m hm => by rw [List.mem_singleton.1 hm]; omega
    have hel := enc_len z.length
    have ee : encs [z.length] = enc z.length := by simp [encs]
    simp only [lt, hns]
    rw [put_f K _ hU (by simp) (by omega) (by simp; omega), rput_f K _ hU (by simp) (by omega) (by simp; omega), ee]
    exact putl K hK z hlen z.length K 0 _ (by omega) (by omega) (by omega)
  · simp only [decide_eq_false h, Bool.false_eq_true, if_false, if_neg h, and_self]

/-- what bytes are -/
def readz (b : List Int) : List S69 × Int :=
  let a := lookN b 0 mI
  let r := rds 2100 a.2.2.toNat a.1 a.2.1 []
  if r.2.1 = 0 ∧ r.1 = [] ∧ RightFrom r.2.2 0 then (r.2.2, 0) else ([], 20)
theorem same_l (K : Nat) (l : List S69) (hl : l.length ≤ 1000) : ∀ (d n i : Nat), i + d = l.length → d < n → confidantref21_SameAudit.l0 K l l n (i : Int) = some true
  | 0, n, i, hd, hn => by
    obtain ⟨n, rfl⟩ : ∃ k, n = k + 1 := ⟨n - 1, by omega⟩
    rw [confidantref21_SameAudit.l0.eq_2, if_neg (by omega)]
  | d + 1, n, i, hd, hn => by
    obtain ⟨n, rfl⟩ : ∃ k, n = k + 1 := ⟨n - 1, by omega⟩
    rw [confidantref21_SameAudit.l0.eq_2, if_pos (by omega), if_pos (by omega), if_pos (by omega), if_pos (by simp), w64_id (by omega) (by omega), show ((i : Int) + 1) = ((i + 1 : Nat) : Int) by omega]
    exact same_l K l hl d n (i + 1) (by omega) (by omega)
theorem same_f (K : Nat) (hK : 2000 ≤ K) (l : List S69) (hl : l.length ≤ 1000) : confidantref21_SameAudit.f K l l = some true := by
  unfold confidantref21_SameAudit.f
  rw [if_pos rfl]
  exact same_l K l hl l.length K 0 (by omega) (by omega)

theorem okat_app (l : List S69) (r : S69) {q : Nat} (hq : q < l.length) (h : OkAt l q) : OkAt (l ++ [r]) q := by
  have e : (l ++ [r]).getD q zS69 = l.getD q zS69 := by simp [List.getD, List.getElem?_append_left hq]
  have e2 : (l ++ [r]).getD (q - 1) zS69 = l.getD (q - 1) zS69 := by simp [List.getD, List.getElem?_append_left (show q - 1 < l.length by omega)]
  have e3 : (l ++ [r]).take q = l.take q := by rw [List.take_append_of_le_length (by omega)]
  unfold OkAt cnt at h ⊢
  rw [e, e2, e3]
  exact h
def four (a b c d k : Int) : Int := if k = 0 then a else if k = 1 then b else if k = 2 then c else if k = 3 then d else 0
structure Made (l : List S69) (rd : Int) (s : Int → Int) : Prop where
  ok : ∀ q, q < l.length → OkAt l q
  wf : ∀ r ∈ l, okR r
  le : ∀ r ∈ l, r.f4 ≤ rd
  seq : ∀ k, 0 ≤ k → k < 4 → (cnt l l.length k : Int) = s k
theorem Made.add {l : List S69} {rd rd' : Int} {s s' : Int → Int} (h : Made l rd s) (r : S69) (hw : okR r) (hk : 0 ≤ r.f2 ∧ r.f2 < 4) (h1 : 0 ≤ r.f1) (h5 : 0 ≤ r.f5) (hseq : r.f0 = s r.f2) (h0 : 0 ≤ rd) (hr : r.f4 = rd') (hrd : rd ≤ rd') (hs : ∀ k, s' k = if r.f2 = k then s k + 1 else s k) : Made (l ++ [r]) rd' s' := by
  have eg : (l ++ [r]).getD l.length zS69 = r := by simp [List.getD]
  refine ⟨fun q hq => ?_, fun x hx => ?_, fun x hx => ?_, fun k k0 k4 => ?_⟩
  · simp only [List.length_append, List.length_singleton] at hq
    by_cases hql : q < l.length
    · exact okat_app l r hql (h.ok q hql)
    · have : q = l.length := by omega
      subst this
      unfold OkAt
      rw [eg]
      refine ⟨by omega, fun hp => ?_, h1, hk.1, h5, ?_⟩
      · have hm : l.length - 1 < l.length := by omega
        have e2 : (l ++ [r]).getD (l.length - 1) zS69 = l[l.length - 1] := by simp [List.getD, List.getElem?_append_left hm, hm]
        rw [e2]
        have := h.le _ (List.getElem_mem hm)
        omega
      · have e3 : cnt (l ++ [r]) l.length r.f2 = cnt l l.length r.f2 := by unfold cnt; rw [List.take_append_of_le_length (Nat.le_refl _)]
        rw [e3, hseq, h.seq _ hk.1 hk.2]
  · rcases List.mem_append.1 hx with hx | hx
    · exact h.wf x hx
    · rw [List.mem_singleton.1 hx]; exact hw
  · rcases List.mem_append.1 hx with hx | hx
    · have := h.le x hx; omega
    · rw [List.mem_singleton.1 hx]; omega
  · have e3 : cnt (l ++ [r]) l.length k = cnt l l.length k := by unfold cnt; rw [List.take_append_of_le_length (Nat.le_refl _)]
    have hc := cnt_succ (l ++ [r]) l.length k (by simp)
    have e4 : (l ++ [r])[l.length]'(by simp) = r := by simp
    rw [e3, e4] at hc
    have el : (l ++ [r]).length = l.length + 1 := by simp
    rw [el, hc, hs k]
    have := h.seq k k0 k4
    split <;> simp <;> omega
theorem some_l (K : Nat) (l : List S111) (hl : l.length ≤ 30) (ho : ∀ x ∈ l, okS111 x) : ∀ (d n i : Nat) (a b c e : Int) (out : List S69) (rd : Int), i + d = l.length → d < n → out.length = i → 0 ≤ rd → rd ≤ 10 * i → (∀ z ∈ [a, b, c, e], 0 ≤ z ∧ z ≤ i) → Made out rd (four a b c e) →
    ∃ x rd' s', confidantlaw22_some.l0 K l n a b c e out rd (i : Int) = some x ∧ x.length = l.length ∧ Made x rd' s'
  | 0, n, i, a, b, c, e, out, rd, hd, hn, hlen, h0, h1, hz, hg => by
    obtain ⟨n, rfl⟩ : ∃ k, n = k + 1 := ⟨n - 1, by omega⟩
    rw [confidantlaw22_some.l0.eq_2, if_neg (by omega)]
    exact ⟨out, rd, _, rfl, by omega, hg⟩
  | d + 1, n, i, a, b, c, e, out, rd, hd, hn, hlen, h0, h1, hz, hg => by
    obtain ⟨n, rfl⟩ : ∃ k, n = k + 1 := ⟨n - 1, by omega⟩
    have hi : i < l.length := by omega
    have ex : l.getD (i : Int).toNat zS111 = l[i] := by simp [List.getD, hi]
    obtain ⟨o0, o1, o2, o3, _⟩ := ho _ (List.getElem_mem hi)
    have u0 := is_u8 o0
    have u1 := is_u8 o1
    have u2 := is_u8 o2
    have ha := hz a (by simp)
    have hb := hz b (by simp)
    have hc := hz c (by simp)
    have he := hz e (by simp)
    have er : IntKind.i64.wrap (rd + IntKind.i64.wrap (Int.tmod l[i].f0 3)) = rd + l[i].f0 % 3 := by
      rw [Int.tmod_eq_emod_of_nonneg (by omega), w64_id (x := l[i].f0 % 3) (by omega) (by omega), w64_id (by omega) (by omega)]
    have eg : IntKind.i64.wrap (Int.tmod l[i].f2 5) = l[i].f2 % 5 := by
      rw [Int.tmod_eq_emod_of_nonneg (by omega), w64_id (by omega) (by omega)]
    have eb : IntKind.i32.wrap l[i].f2 = l[i].f2 := w32_id (by omega) (by omega)
    obtain ⟨k, hk, hk4⟩ : ∃ k : Nat, IntKind.i64.wrap (Int.tmod l[i].f1 4) = (k : Int) ∧ k < 4 := by
      refine ⟨(l[i].f1 % 4).toNat, ?_, by omega⟩
      rw [Int.tmod_eq_emod_of_nonneg (by omega), w64_id (by omega) (by omega)]; omega
    have e64 : ∀ z : Int, 0 ≤ z → z ≤ i → IntKind.i64.wrap (z + 1) = z + 1 := fun z h h' => w64_id (by omega) (by omega)
    rw [confidantlaw22_some.l0.eq_2, if_pos (by omega)]
    simp only [lt, ex, er, hk, eg, eb, List.length_singleton, e64 a ha.1 ha.2, e64 b hb.1 hb.2, e64 c hc.1 hc.2, e64 e he.1 he.2]
    rw [if_pos (by omega), w64_id (x := (i : Int) + 1) (by omega) (by omega), show ((i : Int) + 1) = ((i + 1 : Nat) : Int) by omega]
    have rec_ : ∀ (a' b' c' e' v : Int) , (0 ≤ v ∧ v ≤ i) → v = four a b c e (k : Int) → (∀ z ∈ [a', b', c', e'], 0 ≤ z ∧ z ≤ ((i + 1 : Nat) : Int)) → (∀ q, four a' b' c' e' q = if (k : Int) = q then four a b c e q + 1 else four a b c e q) →
        ∃ x rd' s', confidantlaw22_some.l0 K l n a' b' c' e' (out ++ [⟨v, l[i].f2 % 5, (k : Int), IntKind.i32.wrap (IntKind.i32.wrap l[i].f3 - 128), rd + l[i].f0 % 3, l[i].f2⟩]) (rd + l[i].f0 % 3) ((i + 1 : Nat) : Int) = some x ∧ x.length = l.length ∧ Made x rd' s' := by
      intro a' b' c' e' v hv g2 g4 g5
      refine some_l K l hl ho d n (i + 1) a' b' c' e' _ _ (by omega) (by omega) (by simp [hlen]) (by omega) (by omega) g4 (hg.add _ ⟨wf64 (x := v) (by omega) (by omega), wf64 (x := l[i].f2 % 5) (by omega) (by omega), wf64 (x := (k : Int)) (by omega) (by omega), ww32 _, wf64 (x := rd + l[i].f0 % 3) (by omega) (by omega), wf32 (x := l[i].f2) (by omega) (by omega), trivial⟩ (by simp only; omega) (by simp only; omega) (by simp only; omega) g2 h0 rfl (by omega) g5)
    rcases (by omega : k = 0 ∨ k = 1 ∨ k = 2 ∨ k = 3) with rfl | rfl | rfl | rfl
    · rw [if_pos (by omega), if_pos (by omega), if_pos (by decide)]
      refine rec_ (a + 1) b c e a ha rfl (fun z hz' => ?_) (fun q => ?_)
      · simp only [List.mem_cons, List.not_mem_nil, or_false] at hz'; omega
      · unfold four; repeat' split
        all_goals omega
    · rw [if_neg (by omega), if_pos (by omega), if_pos (by omega), if_neg (by decide), if_pos (by decide)]
      refine rec_ a (b + 1) c e b hb rfl (fun z hz' => ?_) (fun q => ?_)
      · simp only [List.mem_cons, List.not_mem_nil, or_false] at hz'; omega
      · unfold four; repeat' split
        all_goals omega
    · rw [if_neg (by omega), if_neg (by omega), if_pos (by omega), if_pos (by omega), if_neg (by decide), if_neg (by decide), if_pos (by decide)]
      refine rec_ a b (c + 1) e c hc rfl (fun z hz' => ?_) (fun q => ?_)
      · simp only [List.mem_cons, List.not_mem_nil, or_false] at hz'; omega
      · unfold four; repeat' split
        all_goals omega
    · rw [if_neg (by omega), if_neg (by omega), if_neg (by omega), if_pos (by omega), if_pos (by omega), if_neg (by decide), if_neg (by decide), if_neg (by decide), if_pos (by decide)]
      refine rec_ a b c (e + 1) e he rfl (fun z hz' => ?_) (fun q => ?_)
      · simp only [List.mem_cons, List.not_mem_nil, or_false] at hz'; omega
      · unfold four; repeat' split
        all_goals omega

theorem read_f (K : Nat) (hK : 5000 ≤ K) (b : List Int) (hB : IsB b) (hl : b.length ≤ 2000) : audit_Read.f K b = some (readz b) := by
  unfold audit_Read.f pack_New.f readz
  obtain ⟨h1, h2, h3, h4, h5⟩ := look_ok b 0 mI hB
  have hback := look_good b 0 mI hB
  simp only [b2, lt]
  rw [num_look K b 0 _ (by omega) hB (by omega)]
  simp only [b3]
  generalize lookN b 0 mI = a at *
  have hn : a.2.2 = ((a.2.2.toNat : Nat) : Int) := by omega
  rw [hn]
  refine Eq.trans (prog_l K (by omega) _ 2100 K a.2.2.toNat a.1 a.2.1 [] h2 (by omega) (fun _ => by omega) (by omega) (by omega) (by omega) (by simp)) ?_
  have hgood := rds_good 2100 a.2.2.toNat a.1 a.2.1 [] h2 (fun _ => by omega)
  simp only [Int.toNat_natCast]
  generalize rds 2100 a.2.2.toNat a.1 a.2.1 [] = r at *
  unfold pack_Reader_Err.f
  simp only
  by_cases he : r.2.1 = 0
  · obtain ⟨z0, more, g1, g2, g3, g4, g5⟩ := hgood he (by simp)
    obtain ⟨_, n, v, lb, _⟩ := hback z0
    have hmore : r.2.2 = more := by simpa using g1
    have hge := flat_ge more
    have hlen : (flat more).length ≤ a.1.length := by rw [g3, List.length_append]; omega
    have fit : Fit r.2.2 := ⟨by rw [hmore]; omega, by rw [hmore]; simpa using g4⟩
    rw [if_pos he, (putf K hK r.2.2 fit).1]
    unfold bytes_Equal.f
    simp only [b1]
    rw [bStr_eq (putz_B _) hB]
    have hnn : more.length = n := by omega
    have key : (putz r.2.2 = b) ↔ (r.1 = [] ∧ RightFrom r.2.2 0) := by
      unfold putz
      rw [hmore]
      have hb : b = enc n ++ (flat more ++ r.1) := by rw [← g3]; exact lb
      by_cases hr : RightFrom more 0
      · rw [if_pos hr, hb, hnn, List.append_cancel_left_eq]
        constructor
        · intro g; exact ⟨by have : flat more ++ [] = flat more ++ r.1 := by simpa using g
                             exact (List.append_cancel_left this).symm, hr⟩
        · intro g; rw [g.1]; simp
      · rw [if_neg hr, hb]
        have hp := enc_pos n
        constructor
        · intro g
          have := congrArg List.length g
          simp at this
          omega
        · intro g; exact absurd g.2 hr
    by_cases hk : r.1 = [] ∧ RightFrom r.2.2 0
    · rw [decide_eq_true (key.2 hk)]
      simp only [Bool.not_true, Bool.false_eq_true, if_false]
      rw [if_pos ⟨he, hk⟩]
    · rw [decide_eq_false (fun g => hk (key.1 g))]
      simp only [Bool.not_false, if_true]
      rw [if_neg (fun g => hk g.2)]
  · rw [if_neg he, if_neg (show ¬ (r.2.1 = 0 ∧ r.1 = [] ∧ RightFrom r.2.2 0) from fun g => he g.1)]
    rfl
theorem rds_zero (f : Nat) (l : List Int) (e : Int) (out : List S69) : rds (f + 1) 0 l e out = (l, e, out) := by
  rw [rds, if_neg (fun g => absurd g.1 (Nat.lt_irrefl 0))]
theorem rread_f (K : Nat) (hK : 5000 ≤ K) (b : List Int) (hB : IsB b) (hl : b.length ≤ 2000) : confidantref21_AuditRead.f K b = some (readz b) := by
  unfold confidantref21_AuditRead.f readz
  obtain ⟨h1, h2, h3, h4, h5⟩ := look_ok b 0 mI hB
  obtain ⟨k1, k2, k3, k4, k5⟩ := look_ok b 0 2147483648 hB
  have hback := look_good b 0 mI hB
  have kback := look_good b 0 2147483648 hB
  have e1 : lookN b 0 mI = rdN mI b 0 true := by unfold lookN; rw [if_pos rfl]
  have e2 : lookN b 0 2147483648 = rdN 2147483648 b 0 true := by unfold lookN; rw [if_pos rfl]
  have same : (lookN b 0 2147483648).2.1 = 0 → lookN b 0 mI = lookN b 0 2147483648 := by
    intro g
    obtain ⟨_, n, v, lb, m⟩ := kback g
    have h := rd_enc mI n (lookN b 0 2147483648).1 (by omega)
    rw [if_neg (show ¬ (n : Int) > mI from by show ¬ (n : Int) > 9223372036854775807; omega), ← lb] at h
    rw [e1, h]
    refine Prod.ext rfl (Prod.ext g.symm v.symm)
  simp only [lt]
  rw [rnum_look K b 0 _ (by omega) hB (by omega)]
  simp only [b3]
  by_cases hz : (lookN b 0 2147483648).2.1 = 0
  · rw [same hz]
    obtain ⟨_, n, v, lb, m⟩ := kback hz
    generalize lookN b 0 2147483648 = a at *
    have hn : a.2.2.toNat = n := by omega
    rw [hn, v]
    refine Eq.trans (rprog_l K (by omega) _ n (by omega) 2100 K n 0 a.1 a.2.1 [] (by omega) k2 (by omega) (fun _ => by omega) (by omega) (by omega) (by simp)) ?_
    have hgood := rds_good 2100 n a.1 a.2.1 [] k2 (fun _ => by omega)
    try simp only
    generalize rds 2100 n a.1 a.2.1 [] = r at *
    by_cases he : r.2.1 = 0
    · obtain ⟨z0, more, g1, g2, g3, g4, g5⟩ := hgood he (by simp)
      have hmore : r.2.2 = more := by simpa using g1
      have hge := flat_ge more
      have hlen : (flat more).length ≤ a.1.length := by rw [g3, List.length_append]; omega
      have fit : Fit r.2.2 := ⟨by rw [hmore]; omega, by rw [hmore]; simpa using g4⟩
      rw [if_pos he]
      by_cases hr : r.1 = []
      · rw [if_neg (by rw [hr]; simp), rright_f K (by omega) r.2.2 fit]
        simp only [b1]
        by_cases hk : RightFrom r.2.2 0
        · rw [decide_eq_true hk]
          simp only [Bool.not_true, Bool.false_eq_true, if_false]
          rw [if_pos ⟨he, hr, hk⟩]
        · rw [decide_eq_false hk]
          simp only [Bool.not_false, if_true]
          rw [if_neg (fun g => hk g.2.2)]
      · have hp := List.length_pos_iff.2 hr
        rw [if_pos (by omega), if_neg (show ¬ (r.2.1 = 0 ∧ r.1 = [] ∧ RightFrom r.2.2 0) from fun g => hr g.2.1)]
        rfl
    · rw [if_neg he, if_neg (show ¬ (r.2.1 = 0 ∧ r.1 = [] ∧ RightFrom r.2.2 0) from fun g => he g.1)]
      rfl
  · have hv := k4 hz
    rw [hv]
    refine Eq.trans (rprog_l K (by omega) _ 0 (by omega) 2100 K 0 0 _ _ [] (by omega) k2 (by omega) (fun _ => by omega) (by omega) (by omega) (by simp)) ?_
    rw [show rds 2100 0 (lookN b 0 2147483648).1 (lookN b 0 2147483648).2.1 [] = ((lookN b 0 2147483648).1, (lookN b 0 2147483648).2.1, []) from rds_zero 2099 _ _ _]
    try simp only
    rw [if_neg hz]
    have hbad : ¬ (rds 2100 (lookN b 0 mI).2.2.toNat (lookN b 0 mI).1 (lookN b 0 mI).2.1 []).2.1 = 0 := by
      intro g
      obtain ⟨z0, more, g1, g2, g3, g4, g5⟩ := rds_good 2100 _ _ _ [] h2 (fun _ => by omega) g (by simp)
      obtain ⟨_, n, v, lb, m⟩ := hback z0
      have hge := flat_ge more
      have hlen : (flat more).length ≤ (lookN b 0 mI).1.length := by rw [g3, List.length_append]; omega
      have hnn : more.length = n := by omega
      have h := rd_enc 2147483648 n (lookN b 0 mI).1 (by omega)
      rw [if_neg (by omega), ← lb, ← e2] at h
      exact hz (by rw [h])
    first | (rw [if_neg (fun g => hbad g.1)]; rfl) | simp [hbad]

/-- a record whose numbers read back -/
def Neat (r : S69) : Prop := okR r ∧ 0 ≤ r.f0 ∧ 0 ≤ r.f1 ∧ 0 ≤ r.f2 ∧ 0 ≤ r.f4 ∧ 0 ≤ r.f5
theorem recd_put (r : S69) (rest : List Int) (h : Neat r) : recd (encs (nums r) ++ rest) 0 = (rest, 0, r) := by
  obtain ⟨⟨w0, w1, w2, w3, w4, w5, _⟩, p0, p1, p2, p4, p5⟩ := h
  have q0 := is_i64 w0
  have q1 := is_i64 w1
  have q2 := is_i64 w2
  have q3 := is_i32 w3
  have q4 := is_i64 w4
  have q5 := is_i32 w5
  have lk : ∀ (n : Nat) (t : List Int) (m : Int), n < 18446744073709551616 → (n : Int) ≤ m → lookN (enc n ++ t) 0 m = (t, 0, (n : Int)) := by
    intro n t m h1 h2
    unfold lookN
    rw [if_pos rfl, rd_enc m n t h1, if_neg (by omega)]
  have un : ∀ x : Int, 0 ≤ x → x ≤ 9223372036854775807 → (unum x : Int) = x := fun x h1 h2 => by unfold unum; rw [wu64_id (by omega) (by omega)]; omega
  have u0 := un r.f0 p0 q0.2
  have u1 := un r.f1 p1 q1.2
  have u2 := un r.f2 p2 q2.2
  have u4 := un r.f4 p4 q4.2
  have u5 := un r.f5 p5 (by omega)
  have b3' : 0 ≤ IntKind.u32.wrap r.f3 ∧ IntKind.u32.wrap r.f3 ≤ 4294967295 := by rw [wu32]; omega
  have u3 := un (IntKind.u32.wrap r.f3) b3'.1 (by omega)
  have e3 : IntKind.i32.wrap (IntKind.u32.wrap (IntKind.u32.wrap r.f3)) = r.f3 := by rw [w32, wu32, wu32]; omega
  have mI' : mI = 9223372036854775807 := rfl
  have mU' : mU = 4294967295 := rfl
  have mS' : mS = 2147483647 := rfl
  unfold recd nums
  simp only [encs, List.append_assoc, List.nil_append]
  rw [lk _ _ mI (unum_lt _) (by omega)]
  simp only
  rw [lk _ _ mI (unum_lt _) (by omega)]
  simp only
  rw [lk _ _ mI (unum_lt _) (by omega)]
  simp only
  rw [lk _ _ mU (unum_lt _) (by omega)]
  simp only
  rw [lk _ _ mI (unum_lt _) (by omega)]
  simp only
  rw [lk _ _ mS (unum_lt _) (by omega)]
  simp only [u0, u1, u2, u3, u4, u5, e3]
  rw [w64_id (x := r.f0) (by omega) (by omega), w64_id (x := r.f1) (by omega) (by omega), w64_id (x := r.f2) (by omega) (by omega), w64_id (x := r.f4) (by omega) (by omega), w32_id (x := r.f5) (by omega) (by omega)]
theorem rds_put : ∀ (z : List S69) (f : Nat) (out : List S69), z.length < f → (∀ r ∈ z, Neat r) → rds f z.length (flat z) 0 out = ([], 0, out ++ z)
  | [], f, out, hf, hz => by
    obtain ⟨f, rfl⟩ : ∃ k, f = k + 1 := ⟨f - 1, by simp at hf; omega⟩
    simp [rds, flat]
  | r :: z, f, out, hf, hz => by
    obtain ⟨f, rfl⟩ : ∃ k, f = k + 1 := ⟨f - 1, by simp at hf; omega⟩
    rw [rds, if_pos ⟨by simp, rfl⟩, flat, recd_put r _ (hz r (by simp))]
    simp only [List.length_cons, Nat.add_sub_cancel]
    rw [rds_put z f (out ++ [r]) (by simp at hf; omega) (fun x hx => hz x (by simp [hx]))]
    simp
theorem read_put (z : List S69) (hz : z.length ≤ 400) (hn : ∀ r ∈ z, Neat r) (hr : RightFrom z 0) : readz (putz z) = (z, 0) := by
  unfold readz putz
  have lk : lookN (enc z.length ++ flat z) 0 mI = (flat z, 0, (z.length : Int)) := by
    unfold lookN
    rw [if_pos rfl, rd_enc mI z.length (flat z) (by omega), if_neg (by show ¬ (z.length : Int) > 9223372036854775807; omega)]
  rw [if_pos hr, lk]
  simp only [Int.toNat_natCast]
  rw [rds_put z 2100 [] (by omega) hn]
  simp only [List.nil_append]
  rw [if_pos ⟨trivial, trivial, hr⟩]
theorem ar_0 (K : Nat) (hK : 5000 ≤ K) (zs : List (List Int)) (hl : zs.length ≤ 10) (hz : ∀ z ∈ zs, IsB z ∧ z.length ≤ 2000) (j : List (List Int) → Option Bool) (hj : j zs = some true) (hs : ∀ z ∈ zs, (readz z).1.length ≤ 1000) : ∀ (d n i : Nat), i + d = zs.length → d < n → confidantlaw22_AuditReads.l0 K zs j n (i : Int) = some true
  | 0, n, i, hd, hn => by
    obtain ⟨n, rfl⟩ : ∃ k, n = k + 1 := ⟨n - 1, by omega⟩
    rw [confidantlaw22_AuditReads.l0.eq_2, if_neg (by omega)]
    exact hj
  | d + 1, n, i, hd, hn => by
    obtain ⟨n, rfl⟩ : ∃ k, n = k + 1 := ⟨n - 1, by omega⟩
    have hi : i < zs.length := by omega
    have e : zs.getD (i : Int).toNat [] = zs[i] := by simp [List.getD, hi]
    obtain ⟨hB, hlen⟩ := hz _ (List.getElem_mem hi)
    have hs' := hs _ (List.getElem_mem hi)
    rw [confidantlaw22_AuditReads.l0.eq_2, if_pos (by omega), if_pos (by omega), e, read_f K hK _ hB hlen, rread_f K hK _ hB hlen]
    generalize readz zs[i] = r at *
    obtain ⟨o, er⟩ := r
    simp only [b2, lt, if_true]
    rw [same_f K (by omega) o hs']
    simp only [b1, Bool.not_true, Bool.false_eq_true, if_false]
    rw [w64_id (by omega) (by omega), show ((i : Int) + 1) = ((i + 1 : Nat) : Int) by omega]
    exact ar_0 K hK zs hl hz j hj hs d n (i + 1) (by omega) (by omega)
theorem readz_len (b : List Int) (hB : IsB b) (hl : b.length ≤ 2000) : (readz b).1.length ≤ 1000 := by
  unfold readz
  obtain ⟨h1, h2, h3, h4, h5⟩ := look_ok b 0 mI hB
  simp only
  split
  · rename_i h
    obtain ⟨z0, more, g1, g2, g3, g4, g5⟩ := rds_good 2100 _ _ _ [] h2 (fun _ => by omega) h.1 (by simp)
    have hge := flat_ge more
    have hlen : (flat more).length ≤ (lookN b 0 mI).1.length := by rw [g3, List.length_append]; omega
    have hm : (rds 2100 (lookN b 0 mI).2.2.toNat (lookN b 0 mI).1 (lookN b 0 mI).2.1 []).2.2 = more := by simpa using g1
    rw [hm]; simp only; omega
  · simp

theorem bX_B (x y : Int) : ∃ c : Nat, bX .u8 x y = (c : Int) ∧ c < 256 := by
  unfold bX
  refine ⟨(IntKind.u8.wrap ((BitVec.ofInt IntKind.u8.bits x ^^^ BitVec.ofInt IntKind.u8.bits y).toNat)).toNat, ?_, ?_⟩ <;> rw [wu8] <;> omega
theorem known_f : ∃ K, 5000 ≤ K ∧ confidantlaw22_known.f K = some true := ⟨5000, Nat.le_refl _, by kernel_rfl⟩
theorem AuditReads : confidantlaw22_AuditReads.Pure := by
  intro raw l at_ c more _ hraw _ ho hat hc _ hmore
  have uat := is_u16 hat
  obtain ⟨K, hK, hkn⟩ := known_f
  refine ⟨K, ?_⟩
  unfold confidantlaw22_AuditReads.f
  simp only [hkn, b1, if_true]
  refine lt_all (P := fun J => J true = some true ∧ (raw.length ≤ 80 → l.length ≤ 20 → more.length ≤ 8 → J false = some true)) ⟨by simp, fun h1 h2 h3 => ?_⟩ (fun J hJ => ?_)
  · simp only [Bool.false_eq_true, if_false]
    unfold confidantlaw22_some.f
    have g0 : Made [] 0 (four 0 0 0 0) := by
      refine ⟨by simp, by simp, by simp, fun k h0 h4 => ?_⟩
      unfold four cnt
      simp
    obtain ⟨x, rd, s, hx, hxl, hg⟩ := some_l K l (by omega) ho l.length K 0 0 0 0 0 [] 0 (by omega) (by omega) rfl (by omega) (by omega) (by simp) g0
    have hx' : confidantlaw22_some.l0 K l K 0 0 0 0 ([] : List S69) 0 0 = some x := hx
    have fx : Fit x := ⟨by omega, hg.wf⟩
    have hr : RightFrom x 0 := fun q h _ => hg.ok q h
    have hneat : ∀ r ∈ x, Neat r := by
      intro r hr'
      obtain ⟨q, hq, rfl⟩ := List.mem_iff_getElem.1 hr'
      have ok := hg.ok q hq
      have e : x.getD q zS69 = x[q] := by simp [List.getD, hq]
      unfold OkAt at ok
      rw [e] at ok
      exact ⟨hg.wf _ hr', by rw [ok.2.2.2.2.2]; omega, ok.2.2.1, ok.2.2.2.1, ok.1, ok.2.2.2.2.1⟩
    have hp : putz x = enc x.length ++ flat x := by unfold putz; rw [if_pos hr]
    have hp1 := enc_pos x.length
    have hp2 := enc_len x.length
    have hp3 := flat_len x
    have hpl : 0 < (putz x).length ∧ (putz x).length ≤ 1400 := by rw [hp, List.length_append]; omega
    have hpB := putz_B x
    rw [hx']
    simp only
    rw [(putf K hK x fx).2]
    simp only [lt, List.length_nil, Nat.zero_add, List.nil_append]
    obtain ⟨m, hm, hm2⟩ : ∃ m : Nat, Int.tmod (IntKind.i64.wrap at_) ((putz x).length : Int) = (m : Int) ∧ m < (putz x).length := by
      refine ⟨(at_ % ((putz x).length : Int)).toNat, ?_, ?_⟩
      · rw [w64_id (by omega) (by omega), Int.tmod_eq_emod_of_nonneg (by omega)]
        have := Int.emod_nonneg at_ (show ((putz x).length : Int) ≠ 0 by omega)
        omega
      · have := Int.emod_nonneg at_ (show ((putz x).length : Int) ≠ 0 by omega)
        have := Int.emod_lt_of_pos at_ (show (0 : Int) < (putz x).length by omega)
        omega
    simp only [hm, Int.toNat_natCast]
    rw [if_pos (by omega), if_neg (by omega), if_pos (by omega), if_pos (by omega), if_neg (by omega), if_pos (by omega), if_pos (by omega), if_pos (by omega), if_pos (by omega)]
    have hall : ∀ z ∈ [raw, putz x, (putz x).set m (bX .u8 ((putz x).getD m 0) c), (putz x).take m, putz x ++ more], IsB z ∧ z.length ≤ 2000 := by
      intro z hz
      simp only [List.mem_cons, List.not_mem_nil, or_false] at hz
      rcases hz with rfl | rfl | rfl | rfl | rfl
      · exact ⟨IsB.of hraw, by omega⟩
      · exact ⟨hpB, by omega⟩
      · refine ⟨fun y hy => ?_, by rw [List.length_set]; omega⟩
        rcases List.mem_or_eq_of_mem_set hy with hy | rfl
        · exact hpB y hy
        · exact bX_B _ _
      · exact ⟨hpB.take m, by rw [List.length_take]; omega⟩
      · exact ⟨hpB.app (IsB.of hmore), by rw [List.length_append]; omega⟩
    refine ar_0 K hK _ (by simp) hall _ ?_ (fun z hz => readz_len z (hall z hz).1 (hall z hz).2) 5 K 0 (by simp) (by omega)
    rw [(putf K hK x fx).1]
    simp only
    rw [read_f K hK _ hpB (by omega), read_put x fx.len hneat hr]
    simp only [b2, if_true]
    rw [same_f K (by omega) x (by omega)]
  · by_cases h1 : (raw.length : Int) > 80
    · rw [if_pos h1]; exact hJ.1
    rw [if_neg h1]
    by_cases h2 : (l.length : Int) > 20
    · rw [if_pos h2]; exact hJ.1
    rw [if_neg h2]
    by_cases h3 : (more.length : Int) > 8
    · rw [decide_eq_true h3]; exact hJ.1
    · rw [decide_eq_false h3]; exact hJ.2 (by omega) (by omega) (by omega)
end Go.Proofs.Ytipaaapbapijhaa.Pure
