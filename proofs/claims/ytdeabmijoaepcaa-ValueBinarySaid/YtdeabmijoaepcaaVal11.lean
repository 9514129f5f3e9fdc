/-
  The walk of package value's Binary: all ways together.
-/
import Derived.Test.YtdeabmijoaepcaaVal6
import Derived.Test.YtdeabmijoaepcaaVal7
namespace Go.Proofs.Ytdeabmijoaepcaa
open Go.RowKit Go.Stk

theorem binary_any (op : ByteArray) (a b : Val) (w : World) : Calls Try.prog 15 #[.string op, .agg #[.int .i64 a.t, .int .i64 a.n, .int .u64 a.b], .agg #[.int .i64 b.t, .int .i64 b.n, .int .u64 b.b]] w (Ret w (binR op.toList a b)) := by
  unfold binR
  by_cases h1 : a.good = false
  · rw [if_pos h1]; exact bin_bad1 op a b w h1
  have g1 : a.good = true := by simpa using h1
  rw [if_neg h1]
  by_cases h2 : b.good = false
  · rw [if_pos h2]; exact bin_bad2 op a b w g1 h2
  have g2 : b.good = true := by simpa using h2
  rw [if_neg h2]
  by_cases h3 : a.t ≠ b.t
  · rw [if_pos h3]; exact bin_bad3 op a b w g1 g2 (by simpa using h3)
  have g3 : (a.t != b.t) = false := by simpa using h3
  rw [if_neg h3]
  by_cases h4 : a.t = 1
  · rw [if_pos h4]
    split
    · next x hc => exact bin_int_cmp op a b w x g1 g2 g3 (by simpa using h4) hc
    · next hc => exact bin_int_op op a b w g1 g2 g3 (by simpa using h4) hc
  rw [if_neg h4]
  by_cases h5 : a.t = 2
  · rw [if_pos h5]
    split
    · next x hc => exact bin_flt op a b w 3 (b2i x) 0 true _ g1 g2 g3 (by simpa using h4) (by simpa using h5) (Lib.hid (by rw [hc]; rfl)) (Lib.hid rfl)
    · next hc => exact bin_flt op a b w 0 0 0 false _ g1 g2 g3 (by simpa using h4) (by simpa using h5) (Lib.hid (by rw [hc]; rfl)) (Lib.hid rfl)
  rw [if_neg h5]
  exact bin_bool op a b w g1 g2 g3 (by simpa using h4) (by simpa using h5)
end Go.Proofs.Ytdeabmijoaepcaa
