/-
  What the document's Binary comes to is what the package's comes to: the numbers.
-/
import Derived.Test.YtdeabmijoaepcaaRef7
import Derived.Test.YtdeabmijoaepcaaFlt4
namespace Go.Proofs.Ytdeabmijoaepcaa
open Go.RowKit Go.Stk

theorem ord_int {a b : Val} (h : a.t ≠ 2) : ordR a b = if a.n < b.n then -1 else if b.n < a.n then 1 else 0 := by simp [ordR, h]
theorem oi_eq {a b : Val} (h : a.t ≠ 2) : (ordR a b == 0) = (a.n == b.n) := by
  rw [ord_int h, Bool.eq_iff_iff]; simp only [beq_iff_eq]; split
  · simp; omega
  · split <;> (simp; omega)
theorem oi_lt {a b : Val} (h : a.t ≠ 2) : (ordR a b == -1) = decide (a.n < b.n) := by
  rw [ord_int h, Bool.eq_iff_iff]; simp only [beq_iff_eq, decide_eq_true_eq]; split
  · simp; omega
  · split <;> (simp; omega)
theorem oi_gt {a b : Val} (h : a.t ≠ 2) : (ordR a b == 1) = decide (b.n < a.n) := by
  rw [ord_int h, Bool.eq_iff_iff]; simp only [beq_iff_eq, decide_eq_true_eq]; split
  · simp; omega
  · split <;> (simp; omega)
def ordO : Option Ordering → Int
  | none => 2
  | some .lt => -1
  | some .gt => 1
  | some .eq => 0
theorem ord_flt' {a b : Val} (h : a.t = 2) : ordR a b = ordO (FloatKind.f64.format.order a.b.toNat b.b.toNat) := by
  simp only [ordR, if_pos h]
  cases ha : nanB a.b.toNat
  · cases hb : nanB b.b.toNat
    · simp only [Bool.false_eq_true, if_false]
      cases ho : FloatKind.f64.format.order a.b.toNat b.b.toNat with
      | none =>
        rcases order_none ho with h1 | h1
        · rw [ha] at h1; cases h1
        · rw [hb] at h1; cases h1
      | some o => cases o <;> simp [ordO]
    · have := order_nan (a := a.b.toNat) (b := b.b.toNat) (.inr hb)
      rw [show FloatKind.f64.format.order a.b.toNat b.b.toNat = none from this]
      simp [ordO]
  · have := order_nan (a := a.b.toNat) (b := b.b.toNat) (.inl ha)
    rw [show FloatKind.f64.format.order a.b.toNat b.b.toNat = none from this]
    simp [ordO]
theorem oo_eq (o : Option Ordering) : (ordO o == 0) = (o == some .eq) := by rcases o with _ | _ | _ | _ <;> rfl
theorem oo_lt (o : Option Ordering) : (ordO o == -1) = (o == some .lt) := by rcases o with _ | _ | _ | _ <;> rfl
theorem oo_gt (o : Option Ordering) : (ordO o == 1) = (o == some .gt) := by rcases o with _ | _ | _ | _ <;> rfl

/-! ### Signs: quotient and rest by sizes -/
theorem up {x : Int} (h : 0 ≤ x) (h2 : x ≤ 9223372036854775807) : IntKind.u64.wrap x = x := by rw [u64_eq]; omega
theorem un {x : Int} (h : x < 0) (h2 : -9223372036854775808 ≤ x) : IntKind.u64.wrap (-(IntKind.u64.wrap x)) = -x := by simp only [u64_eq]; omega
theorem wrap_idem (x : Int) : wrap64 (IntKind.u64.wrap x) = wrap64 x := by rw [u64_eq, wrap64_emod]
theorem wrap_neg (x : Int) : wrap64 (IntKind.u64.wrap (-(IntKind.u64.wrap x))) = wrap64 (-x) := by
  simp only [u64_eq, wrap64]; omega
theorem wrap_neg' (x : Int) : wrap64 (IntKind.u64.wrap (-x)) = wrap64 (-x) := wrap_idem _
theorem rem_small {x y : Int} (h1 : -9223372036854775808 ≤ x) (h2 : x ≤ 9223372036854775807) : wrap64 (x.tmod y) = x.tmod y := by
  have h3 : x.tmod y ≤ 9223372036854775807 ∧ -9223372036854775808 ≤ x.tmod y := by
    rcases Int.le_total 0 x with h | h
    · have := Int.tmod_nonneg y h
      have h5 : x.tmod y ≤ x := by
        rw [Int.tmod_def] 
        by_cases hy : y = 0
        · subst hy; simp
        · have : 0 ≤ y * x.tdiv y := by
            rcases Int.le_total 0 y with hy2 | hy2
            · exact Int.mul_nonneg hy2 (Int.tdiv_nonneg h hy2)
            · have := Int.tdiv_nonpos_of_nonneg_of_nonpos h hy2
              exact Int.mul_nonneg_of_nonpos_of_nonpos hy2 this
          omega
      omega
    · have h6 : x.tmod y = -((-x).tmod y) := by rw [Int.neg_tmod]; omega
      have h7 := Int.tmod_nonneg y (show 0 ≤ -x by omega)
      have h5 : (-x).tmod y ≤ -x := by
        rw [Int.tmod_def]
        have : 0 ≤ y * (-x).tdiv y := by
          rcases Int.le_total 0 y with hy2 | hy2
          · exact Int.mul_nonneg hy2 (Int.tdiv_nonneg (by omega) hy2)
          · have := Int.tdiv_nonpos_of_nonneg_of_nonpos (show 0 ≤ -x by omega) hy2
            exact Int.mul_nonneg_of_nonpos_of_nonpos hy2 this
        omega
      omega
  exact IntWalk.wrap64_in _ (by omega)
end Go.Proofs.Ytdeabmijoaepcaa
