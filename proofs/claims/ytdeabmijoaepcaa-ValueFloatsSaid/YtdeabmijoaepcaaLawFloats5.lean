/-
  ValueFloats: all ways together.
-/
import Derived.Test.YtdeabmijoaepcaaLawFloats2
import Derived.Test.YtdeabmijoaepcaaLawFloats3
import Derived.Test.YtdeabmijoaepcaaLawFloats4
namespace Go.Proofs.Ytdeabmijoaepcaa
open Go.RowKit Go.Stk

theorem zero_is (a : Nat) : (IntKind.u64.wrap ((a : Int) * 2) == 0) = decide (a % 9223372036854775808 = 0) := by
  rw [IntKind.wrap_u64]
  apply Bool.eq_iff_iff.2
  rw [beq_iff_eq, decide_eq_true_iff]
  omega
theorem floats_law (x y : Int) (w : World) (hx0 : 0 ≤ x) (hx1 : x ≤ 18446744073709551615) (hy0 : 0 ≤ y) (hy1 : y ≤ 18446744073709551615) : Calls Try.prog 8 #[.int .u64 x, .int .u64 y] w (Ret w (.bool true)) := by
  obtain ⟨a, rfl⟩ : ∃ a : Nat, x = a := ⟨x.toNat, by omega⟩
  obtain ⟨b, rfl⟩ : ∃ b : Nat, y = b := ⟨y.toNat, by omega⟩
  have ha : a < 18446744073709551616 := by omega
  have hb : b < 18446744073709551616 := by omega
  clear hx0 hx1 hy0 hy1
  have num : ∀ o, FloatKind.f64.format.order a b = some o → nanB a = false ∧ nanB b = false := by
    intro o ho
    cases h1 : nanB a
    · cases h2 : nanB b
      · exact ⟨rfl, rfl⟩
      · have := order_nan (a := a) (b := b) (Or.inr h2)
        rw [show Ieee.double.order a b = some o from ho] at this; cases this
    · have := order_nan (a := a) (b := b) (Or.inl h1)
      rw [show Ieee.double.order a b = some o from ho] at this; cases this
  have apart : FloatKind.f64.format.order a b ≠ some .eq → nanB a = false → ((a : Int) == (b : Int)) = false ∧ ¬ (a % 9223372036854775808 = 0 ∧ b % 9223372036854775808 = 0) := by
    intro hne hna
    refine ⟨?_, fun h => hne (order_zero h.1 h.2)⟩
    rw [beq_eq_false_iff_ne]
    intro h
    have h : a = b := by omega
    subst h
    have : (FloatKind.f64.format.order a a != some .eq) = false := hna
    exact hne (by simpa using this)
  cases ho : FloatKind.f64.format.order a b with
  | none =>
    rcases order_none ho with h | h
    · exact floats_nan1 a b w ho (Lib.hid h)
    · cases h1 : nanB a
      · exact floats_nan2 a b w ho (Lib.hid h1) (Lib.hid h)
      · exact floats_nan1 a b w ho (Lib.hid h1)
  | some o =>
    obtain ⟨na, nb⟩ := num o ho
    cases o with
    | eq =>
      rcases order_same a b ha hb ho with h | ⟨h1, h2⟩
      · have hs : ((a : Int) == (b : Int)) = true := by rw [beq_iff_eq]; omega
        by_cases hz : a % 9223372036854775808 = 0
        · exact floats_eq2 a b w hs (by rw [zero_is]; exact decide_eq_true hz) (by rw [zero_is]; exact decide_eq_true (h ▸ hz)) ho (Lib.hid na) (Lib.hid nb)
        · exact floats_eq1 a b w hs (by rw [zero_is]; exact decide_eq_false hz) ho (Lib.hid na) (Lib.hid nb)
      · have z1 := (zero_is a).trans (decide_eq_true h1)
        have z2 := (zero_is b).trans (decide_eq_true h2)
        cases hs : ((a : Int) == (b : Int))
        · exact floats_eq3 a b w hs z1 z2 ho (Lib.hid na) (Lib.hid nb)
        · exact floats_eq2 a b w hs z1 z2 ho (Lib.hid na) (Lib.hid nb)
    | lt =>
      obtain ⟨hs, hz⟩ := apart (by rw [ho]; decide) na
      by_cases h1 : a % 9223372036854775808 = 0
      · exact floats_lt2 a b w hs (by rw [zero_is]; exact decide_eq_true h1) (by rw [zero_is]; exact decide_eq_false (fun h2 => hz ⟨h1, h2⟩)) ho (Lib.hid na) (Lib.hid nb)
      · exact floats_lt1 a b w hs (by rw [zero_is]; exact decide_eq_false h1) ho (Lib.hid na) (Lib.hid nb)
    | gt =>
      obtain ⟨hs, hz⟩ := apart (by rw [ho]; decide) na
      by_cases h1 : a % 9223372036854775808 = 0
      · exact floats_gt2 a b w hs (by rw [zero_is]; exact decide_eq_true h1) (by rw [zero_is]; exact decide_eq_false (fun h2 => hz ⟨h1, h2⟩)) ho (Lib.hid na) (Lib.hid nb)
      · exact floats_gt1 a b w hs (by rw [zero_is]; exact decide_eq_false h1) ho (Lib.hid na) (Lib.hid nb)
end Go.Proofs.Ytdeabmijoaepcaa
