import Derived.Test.YtifnjijlbcacoaaRng
/- Choices: what both readers tell. Conditions: in the lemmas. -/
set_option linter.unusedVariables false
set_option linter.unusedSimpArgs false
namespace Go.Proofs.Ytifnjijlbcacoaa.Pure
open Go Go.Fw Go.RowKit Go.Proofs.Ytifnjijlbcacoaa.G Go.Proofs.Ytifnjijlbcacoaa.Rng

theorem pk_known (K : Nat) : confidantlaw17_known.f K = some true := by kernel_rfl

def B8 (l : List Int) : Prop := ∀ x ∈ l, 0 ≤ x ∧ x ≤ 255
theorem B8.drop {l : List Int} (h : B8 l) (n : Nat) : B8 (l.drop n) := fun x hx => h x (List.mem_of_mem_drop hx)

def nS (l : List Int) (s : Int) : Int := if l = [] then I (stp (V s)) else s
def nV (l : List Int) (s m : Int) : Int := if l = [] then IntKind.i64.wrap (Int.tmod (I (stp (V s))) m) else Int.tmod (l.getD 0 0) m

theorem nS_U {l : List Int} {s : Int} (h : U s) : U (nS l s) := by
  unfold nS; split
  · exact U_I _
  · exact h

theorem mx1 (n : Int) : 1 ≤ mx n 1 := by unfold mx; split <;> omega
theorem mx1_le {n : Int} (h : n ≤ 9223372036854775807) : mx n 1 ≤ 9223372036854775807 := by unfold mx; split <;> omega

theorem b8_0 {l : List Int} (h : B8 l) : 0 ≤ l.getD 0 0 ∧ l.getD 0 0 ≤ 255 := by
  cases l with
  | nil => simp
  | cons a t => exact h a (by simp)

theorem nV_in {l : List Int} {s n : Int} (hs : U s) (hl : B8 l) (hn : n ≤ 9223372036854775807) : 0 ≤ nV l s (mx n 1) ∧ nV l s (mx n 1) < mx n 1 := by
  have m1 := mx1 n
  have m2 := mx1_le hn
  generalize mx n 1 = m at m1 m2 ⊢
  unfold nV
  split
  · have ui := U_I (stp (V s))
    generalize I (stp (V s)) = t at ui ⊢
    unfold U at ui
    rw [Int.tmod_eq_emod_of_nonneg (by omega)]
    have r1 := Int.emod_nonneg t (show m ≠ 0 by omega)
    have r2 := Int.emod_lt_of_pos t (show 0 < m by omega)
    rw [w64_id (by omega) (by omega)]
    exact ⟨r1, r2⟩
  · have h0 := b8_0 hl
    rw [Int.tmod_eq_emod_of_nonneg (by omega)]
    exact ⟨Int.emod_nonneg _ (by omega), Int.emod_lt_of_pos _ (by omega)⟩

theorem pn_f (K : Nat) {l : List Int} {s n : Int} (hs : U s) (hl : B8 l) (hn : n ≤ 9223372036854775807) : picks_Picks_Next.f K l s n = some (nS l s, l.drop 1, nV l s (mx n 1)) := by
  have m1 := mx1 n
  have m2 := mx1_le hn
  have h0 := b8_0 hl
  unfold picks_Picks_Next.f
  generalize mx n 1 = m at m1 m2 ⊢
  cases l with
  | nil =>
    unfold rng_Rng_Below.f
    rw [if_pos (show ((([] : List Int).length : Nat) : Int) = 0 from rfl), if_neg (by omega), next_f K hs]
    simp only [b2]
    rw [wu64_id (by omega) (by omega), if_neg (by omega)]
    rfl
  | cons a t =>
    have hl' : (((a :: t : List Int).length : Nat) : Int) = (t.length : Int) + 1 := by simp
    rw [hl', if_neg (by omega), if_pos (by omega), if_pos (by omega)]
    simp only [lt]
    rw [if_neg (by omega), w64_id (by have := h0.1; show (-9223372036854775808 : Int) ≤ List.getD (a :: t) 0 0; omega) (by have := h0.2; show List.getD (a :: t) 0 0 < _; omega)]
    rfl

theorem rn_f (K : Nat) {l : List Int} {s n : Int} (hs : U s) (hl : B8 l) (hn : n ≤ 9223372036854775807) : confidantref15_Picks_Next.f K l s n = some (l.drop 1, nS l s, nV l s (mx n 1)) := by
  have m1 := mx1 n
  have m2 := mx1_le hn
  have h0 := b8_0 hl
  unfold confidantref15_Picks_Next.f
  generalize mx n 1 = m at m1 m2 ⊢
  cases l with
  | nil =>
    unfold confidantref15_Picks_Below.f
    rw [if_pos (show ((([] : List Int).length : Nat) : Int) = 0 from rfl), if_neg (by omega), ref_f K hs]
    simp only [b1, b3]
    rw [wu64_id (by omega) (by omega), if_neg (by omega)]
    rfl
  | cons a t =>
    have hl' : (((a :: t : List Int).length : Nat) : Int) = (t.length : Int) + 1 := by simp
    rw [hl', if_neg (by omega), if_pos (by omega), if_neg (by omega), if_pos (by omega)]
    simp only [lt]
    rw [w64_id (by have := h0.1; show (-9223372036854775808 : Int) ≤ List.getD (a :: t) 0 0; omega) (by have := h0.2; show List.getD (a :: t) 0 0 < _; omega)]
    rfl

theorem left_f (K : Nat) (l : List Int) (s : Int) : picks_Picks_Left.f K l s = some (s, (l.length : Int)) := rfl
theorem pnew_f (K : Nat) {l : List Int} (h : l.length ≤ 1000) (s : Int) : picks_New.f K l s = some (l, mx s 1) := by
  unfold picks_New.f slices_Clone_byte_byte.f
  simp only [lt, List.length_nil, List.nil_append]
  rw [if_pos (by omega)]
  simp [b1, new_f]
theorem rnew_f (K : Nat) {l : List Int} {s : Int} (h : U s) : confidantref15_NewPicks.f K l s = some (l, mx s 1) := by
  unfold confidantref15_NewPicks.f mx
  unfold U at h
  simp only [lt]
  by_cases h0 : s = 0
  · subst h0; rfl
  · rw [if_neg h0, if_neg (by omega)]
theorem B8_of {l : List Int} (h : ∀ x ∈ l, (Lit.int .u8 x).wf = true) : B8 l := fun x hx => is_u8 (h x hx)
end Go.Proofs.Ytifnjijlbcacoaa.Pure
