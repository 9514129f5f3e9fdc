/-
  Plain facts on floats of 64 bits: an int comes back through a float.
-/
import Derived.Test.YtdeabmijoaepcaaFlt2
import Derived.Test.YtdeabmijoaepcaaVal8
namespace Go.Stk
open Ieee

theorem ofInt_def (n : Int) : floatOfInt .f64 n = double.nearest (decide (n < 0)) n.natAbs 0 := rfl
theorem ofInt_read (n : Int) (h0 : n ≠ 0) (h : n.natAbs < 9007199254740992) : ∃ k M : Nat, M = n.natAbs * 2 ^ k ∧ 4503599627370496 ≤ M ∧ M < 9007199254740992 ∧ double.read (floatOfInt .f64 n) = .number (decide (n < 0)) M (-(k : Int)) := by
  obtain ⟨f1, f2, f3, f4, f5⟩ := fld
  have ha : n.natAbs ≠ 0 := by omega
  generalize hN : n.natAbs = N at *
  generalize hs : decide (n < 0) = s
  have hl2 : N.log2 < 53 := (Nat.log2_lt ha).2 (by omega)
  obtain ⟨k, hk⟩ : ∃ k, k + N.log2 = 52 := ⟨52 - N.log2, by omega⟩
  have h1 := Nat.log2_self_le ha
  have h2 := Nat.lt_log2_self (n := N)
  have hM1 : 4503599627370496 ≤ N * 2 ^ k := by
    have : 2 ^ N.log2 * 2 ^ k ≤ N * 2 ^ k := Nat.mul_le_mul_right _ h1
    rw [← Nat.pow_add, show N.log2 + k = 52 by omega] at this
    exact this
  have hM2 : N * 2 ^ k < 9007199254740992 := by
    have : N * 2 ^ k < 2 ^ (N.log2 + 1) * 2 ^ k := Nat.mul_lt_mul_of_pos_right h2 (Nat.two_pow_pos k)
    rw [← Nat.pow_add, show N.log2 + 1 + k = 53 by omega] at this
    exact this
  refine ⟨k, N * 2 ^ k, rfl, hM1, hM2, ?_⟩
  rw [ofInt_def, hN, hs]
  have hB : double.nearest s N 0 = double.word s ((1074 - k) * 4503599627370496 + N * 2 ^ k) := by
    simp only [Format.nearest, if_neg ha, f2, f3, f4, f5]
    have hlast : max ((0 : Int) + (N.log2 : Int) - ((52 : Nat) : Int)) (-1074) = -(k : Int) := by omega
    rw [hlast]
    have e1 : ((0 : Int) - -(k : Int)).toNat = k := by omega
    have e2 : (-(k : Int) - 0).toNat = 0 := by omega
    have hm : N * 2 ^ k ≠ 0 := by omega
    have hc := cut_even_exact s (N * 2 ^ k) 0 hm
    rw [Nat.pow_zero, Nat.mul_one] at hc
    rw [e1, e2, shl, hc]
    have e3 : (-(k : Int) - -1074).toNat = 1074 - k := by omega
    have e4 : (1074 - k) * 4503599627370496 ≤ 4836865999795912704 := Nat.mul_le_mul_right 4503599627370496 (show 1074 - k ≤ 1074 by omega)
    rw [e3, Nat.min_eq_left (Nat.le_trans (Nat.add_le_add e4 (Nat.le_of_lt hM2)) (by decide))]
  rw [hB]
  clear hB h1 h2 hl2 hN hs h h0
  generalize N * 2 ^ k = M at *
  have hk2 : k ≤ 52 := by omega
  clear hk ha
  generalize hr : (1074 - k) * 4503599627370496 + M = r
  have hr1 : r / 4503599627370496 = 1075 - k := by
    have : M / 4503599627370496 = 1 := by omega
    rw [← hr, Nat.add_comm, Nat.add_mul_div_right _ _ (by omega), this]
    omega
  have hr2 : r % 4503599627370496 = M - 4503599627370496 := by
    rw [← hr, Nat.add_comm, Nat.add_mul_mod_self_right]
    omega
  have hr3 : r < 9218868437227405312 := by
    have := Nat.mul_le_mul_right 4503599627370496 (show 1074 - k ≤ 1074 by omega)
    omega
  have hw : double.word s r = (if s then 9223372036854775808 else 0) + r := by
    simp only [Format.word, f1]; cases s <;> simp
  have hw1 : double.word s r % 9223372036854775808 = r := by rw [hw]; cases s <;> simp <;> omega
  have hw2 : (double.word s r / 9223372036854775808 % 2 == 1) = s := by
    rw [hw]
    cases s
    · simp; omega
    · simp; omega
  rcases read64 (double.word s r) with ⟨a, e⟩ | ⟨a, c, e⟩ | ⟨a, e⟩ | ⟨a, e⟩
  · rw [hw1] at a; omega
  · rw [e, hw1, hw2, hr1, hr2]
    rw [show 4503599627370496 + (M - 4503599627370496) = M by omega, show (-1074 : Int) + ((1075 - k - 1 : Nat) : Int) = -(k : Int) by omega]
  · rw [hw1] at a; omega
  · rw [hw1] at a; omega
theorem signed_nat (n : Int) : signed (decide (n < 0)) n.natAbs 0 = n := by
  by_cases h : n < 0
  · rw [decide_eq_true h, signed_t]; simp; omega
  · rw [decide_eq_false h, signed_f]; simp; omega
theorem cmp_not_ge {x y : Int} (h : x < y) : (some (compare x y) == some Ordering.gt || some (compare x y) == some Ordering.eq) = false := by
  simp only [compare, compareOfLessAndEq, if_pos h]; rfl
theorem cmp_not_lt {x y : Int} (h : y < x) : (some (compare x y) == some Ordering.lt) = false := by
  simp only [compare, compareOfLessAndEq]
  rw [if_neg (by omega), if_neg (by omega)]; rfl
end Go.Stk
namespace Go.Proofs.Ytdeabmijoaepcaa
open Go.RowKit Go.Stk Ieee
/-- An int as a float, and as an int again. -/
theorem toIntR_ofInt (n : Int) (h : n.natAbs < 9007199254740992) : toIntR (floatOfInt .f64 n) = okR (intA n) := by
  by_cases h0 : n = 0
  · subst h0; rfl
  obtain ⟨k, M, hM, hM1, hM2, hr⟩ := ofInt_read n h0 h
  have hnan : nanB (floatOfInt .f64 n) = false := by
    show (double.order _ _ != some .eq) = false
    unfold Format.order; rw [hr]; simp [Datum.order, compare, compareOfLessAndEq]
  have hbase : min (-(k : Int)) 11 = -(k : Int) := by omega
  have e1 : (-(k : Int) - -(k : Int)).toNat = 0 := by omega
  have e2 : ((11 : Int) - -(k : Int)).toNat = 11 + k := by omega
  have hp : 2048 ≤ 2 ^ (11 + k) := by rw [Nat.pow_add]; have := Nat.two_pow_pos k; omega
  have hbig : (9007199254740992 : Int) ≤ ((4503599627370496 * 2 ^ (11 + k) : Nat) : Int) := by
    have := Nat.mul_le_mul_left 4503599627370496 hp
    omega
  have hs : -(M : Int) ≤ signed (decide (n < 0)) M 0 ∧ signed (decide (n < 0)) M 0 ≤ M := by
    cases decide (n < 0)
    · rw [signed_f]; simp; try omega
    · rw [signed_t]; simp; try omega
  have hge : (double.order (floatOfInt .f64 n) 4890909195324358656 == some .gt || double.order (floatOfInt .f64 n) 4890909195324358656 == some .eq) = false := by
    unfold Format.order; rw [hr, read_top]
    simp only [Datum.order, hbase, e1, e2]
    exact cmp_not_ge (by rw [signed_f]; omega)
  have hlt : (double.order (floatOfInt .f64 n) 14114281232179134464 == some .lt) = false := by
    unfold Format.order; rw [hr, read_low]
    simp only [Datum.order, hbase, e1, e2]
    exact cmp_not_lt (by rw [signed_t]; omega)
  have hv : floatToIntVal .f64 (floatOfInt .f64 n) .i64 = some n := by
    show (match (Datum.toInt .zero (double.read (floatOfInt .f64 n))) with | some n => if IntKind.i64.min ≤ n ∧ n ≤ IntKind.i64.max then some n else none | none => none) = some n
    rw [hr]
    have e3 : (-(k : Int)).toNat = 0 := by omega
    have e4 : (- -(k : Int)).toNat = k := by omega
    simp only [Datum.toInt, Datum.integral, e3, e4]
    have hc : Toward.zero.cut (decide (n < 0)) (M <<< 0) k = n.natAbs := by
      have hN : n.natAbs ≠ 0 := by omega
      have hl := log2_mul_pow n.natAbs k hN
      have hmin : min k ((n.natAbs * 2 ^ k).log2 + 2) = k := by omega
      rw [shl, Nat.pow_zero, Nat.mul_one, hM]
      simp only [Toward.cut, hmin, shl, Nat.one_mul, Nat.mul_div_cancel _ (Nat.two_pow_pos k)]
      rfl
    rw [hc, signed_nat]
    have hmin : IntKind.i64.min = -9223372036854775808 := by decide
    have hmax : IntKind.i64.max = 9223372036854775807 := by decide
    rw [hmin, hmax]
    exact if_pos ⟨by omega, by omega⟩
  unfold toIntR
  rw [hnan, show (FloatKind.f64.format.order (floatOfInt .f64 n) 4890909195324358656 == some .gt || FloatKind.f64.format.order (floatOfInt .f64 n) 4890909195324358656 == some .eq) = false from hge, show (FloatKind.f64.format.order (floatOfInt .f64 n) 14114281232179134464 == some .lt) = false from hlt, hv]
  rfl
end Go.Proofs.Ytdeabmijoaepcaa
