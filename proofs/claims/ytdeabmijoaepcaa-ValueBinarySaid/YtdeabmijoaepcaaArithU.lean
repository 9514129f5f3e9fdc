/-
  Words and their signs.
-/
import Derived.WalkKit
import Derived.IntWalk
namespace Go.Stk
open Go.RowKit
theorem u64_eq (n : Int) : IntKind.u64.wrap n = n % 18446744073709551616 := by simp [IntKind.wrap, IntKind.bits, IntKind.signed]
theorem u64_add (x y : Int) : wrap64 (IntKind.u64.wrap (IntKind.u64.wrap x + IntKind.u64.wrap y)) = wrap64 (x + y) := by
  simp only [u64_eq, wrap64]; omega
theorem u64_sub (x y : Int) : wrap64 (IntKind.u64.wrap (IntKind.u64.wrap x - IntKind.u64.wrap y)) = wrap64 (x - y) := by
  simp only [u64_eq, wrap64]; omega
theorem wrap64_emod (n : Int) : wrap64 (n % 18446744073709551616) = wrap64 n := by simp only [wrap64]; omega
theorem u64_mul (x y : Int) : wrap64 (IntKind.u64.wrap (IntKind.u64.wrap x * IntKind.u64.wrap y)) = wrap64 (x * y) := by
  simp only [u64_eq]
  rw [wrap64_emod, ← wrap64_emod, ← Int.mul_emod, wrap64_emod]
end Go.Stk
