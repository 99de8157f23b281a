import Derived.Test.YtipaaapbapijhaaDoorG1
import Derived.Test.YtipaaapbapijhaaDoorFwLaw
/- There are twenty-six. No condition. -/
set_option linter.unusedVariables false
set_option linter.unusedSimpArgs false
namespace Go.Proofs.YtipaaapbapijhaaDoor.Pure
open Go Go.Fw Go.RowKit Go.Proofs.YtipaaapbapijhaaDoor.G
theorem all : ∀ i j : Fin 26, confidantlaw5_OpsAll.f 100 (i : Int) (j : Int) = some true := by decide +kernel
theorem same (K : Nat) (a a' b b' : Int) (ha : Int.tmod (IntKind.i64.wrap a) 26 = Int.tmod (IntKind.i64.wrap a') 26) (hb : Int.tmod (IntKind.i64.wrap b) 26 = Int.tmod (IntKind.i64.wrap b') 26) : confidantlaw5_OpsAll.f K a b = confidantlaw5_OpsAll.f K a' b' := by
  unfold confidantlaw5_OpsAll.f
  simp only [ha, hb]
theorem small (a : Int) (h : (Lit.int .u8 a).wf = true) : ∃ i : Fin 26, Int.tmod (IntKind.i64.wrap a) 26 = Int.tmod (IntKind.i64.wrap (i : Int)) 26 := by
  have u := is_u8 h
  refine ⟨⟨(a % 26).toNat, by omega⟩, ?_⟩
  have e : (((a % 26).toNat : Nat) : Int) = a % 26 := by omega
  show Int.tmod (IntKind.i64.wrap a) 26 = Int.tmod (IntKind.i64.wrap (((a % 26).toNat : Nat) : Int)) 26
  rw [e, w64_id (by omega) (by omega), w64_id (by omega) (by omega), Int.tmod_eq_emod_of_nonneg u.1, Int.tmod_eq_emod_of_nonneg (by omega), Int.emod_emod]
theorem OpsAll : confidantlaw5_OpsAll.Pure := by
  intro a b ha hb
  obtain ⟨i, hi⟩ := small a ha
  obtain ⟨j, hj⟩ := small b hb
  exact ⟨100, (same 100 a i b j hi hj).trans (all i j)⟩
end Go.Proofs.YtipaaapbapijhaaDoor.Pure
