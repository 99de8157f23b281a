import Derived.Test.YtiilloijkbabbaaDoorG0
import Derived.Test.YtiilloijkbabbaaDoorPack2
import Derived.Test.YtiilloijkbabbaaDoorInsA
/- Instructions: their bytes, and back. Conditions: in the lemmas. -/
set_option linter.unusedVariables false
set_option linter.unusedSimpArgs false
namespace Go.Proofs.YtiilloijkbabbaaDoor.Ins
open Go Go.Fw Go.RowKit Go.Proofs.YtiilloijkbabbaaDoor.G Go.Proofs.YtiilloijkbabbaaDoor.Pack Go.Proofs.YtiilloijkbabbaaDoor.Txt

def u32n (x : Int) : Nat := (x % 4294967296).toNat
theorem u32n_lt (x : Int) : u32n x < 4294967296 := by unfold u32n; omega
def ns (op a : Int) : List Nat := if argT op = 0 then [op.toNat] else [op.toNat, u32n a]
theorem ns_u (op a : Int) (h : Kn op) : U64 (ns op a) := by
  have hu := u32n_lt a
  unfold Kn at h
  unfold ns
  split <;> intro n hn <;> simp only [List.mem_cons, List.not_mem_nil, or_false] at hn
  · omega
  · rcases hn with rfl | rfl <;> omega
theorem ns_len (op a : Int) : 1 ≤ (ns op a).length ∧ (ns op a).length ≤ 2 := by unfold ns; split <;> simp
theorem wuu (a : Int) : IntKind.u64.wrap (IntKind.u32.wrap a) = (u32n a : Int) := by
  rw [wu32, wu64_id (by omega) (by omega)]
  unfold u32n
  omega
theorem wop (op : Int) (h : Kn op) : IntKind.u64.wrap op = (op.toNat : Int) := by unfold Kn at h; rw [wu64_id (by omega) (by omega)]; omega
theorem put_i (K : Nat) (hK : 20 ≤ K) (op a : Int) : instr_Put.f K op a = some (if Rt op a then encs (ns op a) else []) := by
  unfold instr_Put.f
  simp only [right_f, arg_f, b1, lt, decide_eq_true_eq]
  by_cases h : Rt op a
  · rw [if_pos h, if_pos h, wop op h.1, wuu]
    have hp := put_f K (ns op a) (ns_u op a h.1) (by have := (ns_len op a).2; omega) (by omega) (by have := (ns_len op a).2; omega)
    unfold ns at hp ⊢
    by_cases h0 : argT op = 0
    · rw [if_pos h0] at hp ⊢
      rw [if_pos h0, show ([(op.toNat : Int)] : List Int) = ints [op.toNat] from rfl, hp]
    · rw [if_neg h0] at hp ⊢
      rw [if_neg h0, show ([(op.toNat : Int), (u32n a : Int)] : List Int) = ints [op.toNat, u32n a] from rfl, hp]
  · rw [if_neg h, if_neg h]
theorem enc_small (n : Nat) (h : n < 128) : (enc n).length = 1 := by
  unfold enc
  rw [show n / 128 = 0 by omega, hi_zero]
  rfl
theorem hi_le : ∀ (f m : Nat), (hiF f m).length ≤ f := hiF_len
theorem hiF_bound : ∀ (k f m : Nat), m < 128 ^ k → (hiF f m).length ≤ k
  | k, 0, m, _ => by simp [hiF]
  | 0, f + 1, m, h => by
    have : m = 0 := by simpa using h
    subst this
    simp [hiF]
  | k + 1, f + 1, m, h => by
    by_cases h0 : m = 0
    · subst h0; simp [hiF]
    · have := hiF_bound k f (m / 128) (by rw [Nat.pow_succ] at h; omega)
      simp only [hiF, if_neg h0, List.length_append, List.length_singleton]
      omega
theorem enc_32 (n : Nat) (h : n < 4294967296) : (enc n).length ≤ 5 := by
  have := hiF_bound 4 10 (n / 128) (by have e : (128 : Nat) ^ 4 = 268435456 := by decide
                                       omega)
  unfold enc hi
  simp only [List.length_append, List.length_singleton]
  omega
theorem put_len (op a : Int) (h : Kn op) : 1 ≤ (encs (ns op a)).length ∧ (encs (ns op a)).length ≤ 6 ∧ (argT op ≠ 0 → 2 ≤ (encs (ns op a)).length) := by
  unfold Kn at h
  have h1 := enc_small op.toNat (by omega)
  have h2 := enc_32 (u32n a) (u32n_lt a)
  have h3 := enc_pos (u32n a)
  unfold ns
  by_cases h0 : argT op = 0
  · rw [if_pos h0]
    simp only [encs, List.length_append, List.length_nil]
    exact ⟨by omega, by omega, fun n => absurd h0 n⟩
  · rw [if_neg h0]
    simp only [encs, List.length_append, List.length_nil]
    exact ⟨by omega, by omega, fun _ => by omega⟩
end Go.Proofs.YtiilloijkbabbaaDoor.Ins
