/-
  Small facts on wrapped numbers.
-/
import Derived.WalkKit
import Derived.IntWalk
namespace Go.Stk
open Go.RowKit
theorem u64_nonneg (n : Int) : 0 ≤ IntKind.u64.wrap n := by
  have h : IntKind.u64.wrap n = n % 18446744073709551616 := by
    simp [IntKind.wrap, IntKind.bits, IntKind.signed]
  rw [h]; omega
theorem mod_nat (n : Int) (d : Nat) (h0 : 0 < d) (h1 : d ≤ 1000000) : ∃ m : Nat, m < d ∧ wrap64 ((IntKind.u64.wrap n).tmod (d : Int)) = (m : Int) := by
  have h := u64_nonneg n
  refine ⟨((IntKind.u64.wrap n) % (d : Int)).toNat, ?_, ?_⟩
  · have h2 := Int.emod_lt_of_pos (IntKind.u64.wrap n) (show (0 : Int) < d by omega)
    have h3 := Int.emod_nonneg (IntKind.u64.wrap n) (show (d : Int) ≠ 0 by omega)
    omega
  · have h2 := Int.emod_lt_of_pos (IntKind.u64.wrap n) (show (0 : Int) < d by omega)
    have h3 := Int.emod_nonneg (IntKind.u64.wrap n) (show (d : Int) ≠ 0 by omega)
    rw [Int.tmod_eq_emod_of_nonneg h, Int.toNat_of_nonneg h3]
    exact IntWalk.wrap64_in _ (by omega)
end Go.Stk
