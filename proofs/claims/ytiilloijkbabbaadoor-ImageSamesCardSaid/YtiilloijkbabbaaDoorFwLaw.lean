import Derived.Test.YtiilloijkbabbaaDoorFwMore
/-! Plain laws on the words of the printed functions. -/
set_option linter.unusedVariables false
set_option linter.unusedSimpArgs false
namespace Go.Fw
open Go

theorem w64 (x : Int) : IntKind.i64.wrap x = (x + 9223372036854775808) % 18446744073709551616 - 9223372036854775808 := by
  unfold IntKind.wrap
  simp [IntKind.bits, IntKind.signed]
  omega
theorem w32 (x : Int) : IntKind.i32.wrap x = (x + 2147483648) % 4294967296 - 2147483648 := by
  unfold IntKind.wrap
  simp [IntKind.bits, IntKind.signed]
  omega
theorem wu64 (x : Int) : IntKind.u64.wrap x = x % 18446744073709551616 := by
  unfold IntKind.wrap
  simp [IntKind.bits, IntKind.signed]
theorem wu32 (x : Int) : IntKind.u32.wrap x = x % 4294967296 := by
  unfold IntKind.wrap
  simp [IntKind.bits, IntKind.signed]
theorem wu16 (x : Int) : IntKind.u16.wrap x = x % 65536 := by
  unfold IntKind.wrap
  simp [IntKind.bits, IntKind.signed]
theorem wu8 (x : Int) : IntKind.u8.wrap x = x % 256 := by
  unfold IntKind.wrap
  simp [IntKind.bits, IntKind.signed]
theorem w64_id {x : Int} (h1 : -9223372036854775808 ≤ x) (h2 : x < 9223372036854775808) : IntKind.i64.wrap x = x := by rw [w64]; omega
theorem w32_id {x : Int} (h1 : -2147483648 ≤ x) (h2 : x < 2147483648) : IntKind.i32.wrap x = x := by rw [w32]; omega
theorem wu64_id {x : Int} (h1 : 0 ≤ x) (h2 : x < 18446744073709551616) : IntKind.u64.wrap x = x := by rw [wu64]; omega
theorem wu32_id {x : Int} (h1 : 0 ≤ x) (h2 : x < 4294967296) : IntKind.u32.wrap x = x := by rw [wu32]; omega
theorem wu8_id {x : Int} (h1 : 0 ≤ x) (h2 : x < 256) : IntKind.u8.wrap x = x := by rw [wu8]; omega

theorem is_i64 {x : Int} (h : (Lit.int .i64 x).wf = true) : -9223372036854775808 ≤ x ∧ x ≤ 9223372036854775807 := by
  simpa [Lit.wf, IntKind.min, IntKind.max, IntKind.signed, IntKind.bits] using h
theorem is_i32 {x : Int} (h : (Lit.int .i32 x).wf = true) : -2147483648 ≤ x ∧ x ≤ 2147483647 := by
  simpa [Lit.wf, IntKind.min, IntKind.max, IntKind.signed, IntKind.bits] using h
theorem is_u64 {x : Int} (h : (Lit.int .u64 x).wf = true) : 0 ≤ x ∧ x ≤ 18446744073709551615 := by
  simpa [Lit.wf, IntKind.min, IntKind.max, IntKind.signed, IntKind.bits] using h
theorem is_u32 {x : Int} (h : (Lit.int .u32 x).wf = true) : 0 ≤ x ∧ x ≤ 4294967295 := by
  simpa [Lit.wf, IntKind.min, IntKind.max, IntKind.signed, IntKind.bits] using h
theorem is_u16 {x : Int} (h : (Lit.int .u16 x).wf = true) : 0 ≤ x ∧ x ≤ 65535 := by
  simpa [Lit.wf, IntKind.min, IntKind.max, IntKind.signed, IntKind.bits] using h
theorem is_u8 {x : Int} (h : (Lit.int .u8 x).wf = true) : 0 ≤ x ∧ x ≤ 255 := by
  simpa [Lit.wf, IntKind.min, IntKind.max, IntKind.signed, IntKind.bits] using h

/-! ### numbers of 32 bits, round and round -/
theorem w32_add (x q : Int) : IntKind.i32.wrap (x + 4294967296 * q) = IntKind.i32.wrap x := by rw [w32, w32]; omega
theorem w32_ex (x : Int) : ∃ q, IntKind.i32.wrap x = x + 4294967296 * q := ⟨-((x + 2147483648) / 4294967296), by rw [w32]; omega⟩
theorem w32_l (x y : Int) : IntKind.i32.wrap (IntKind.i32.wrap x + y) = IntKind.i32.wrap (x + y) := by rw [w32, w32, w32]; omega
theorem w32_r (x y : Int) : IntKind.i32.wrap (x + IntKind.i32.wrap y) = IntKind.i32.wrap (x + y) := by rw [w32, w32, w32]; omega
theorem w32_sl (x y : Int) : IntKind.i32.wrap (IntKind.i32.wrap x - y) = IntKind.i32.wrap (x - y) := by rw [w32, w32, w32]; omega
theorem w32_sr (x y : Int) : IntKind.i32.wrap (x - IntKind.i32.wrap y) = IntKind.i32.wrap (x - y) := by rw [w32, w32, w32]; omega
theorem w32_mr (x y : Int) : IntKind.i32.wrap (x * IntKind.i32.wrap y) = IntKind.i32.wrap (x * y) := by
  obtain ⟨q, hq⟩ := w32_ex y
  rw [hq, Int.mul_add, show x * (4294967296 * q) = 4294967296 * (x * q) from by rw [← Int.mul_assoc, Int.mul_comm x, Int.mul_assoc], w32_add]
theorem w32_ml (x y : Int) : IntKind.i32.wrap (IntKind.i32.wrap x * y) = IntKind.i32.wrap (x * y) := by rw [Int.mul_comm, w32_mr, Int.mul_comm]
end Go.Fw
