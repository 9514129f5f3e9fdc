/-
  Plain facts on floats of 64 bits: a product by minus one.
-/
import Derived.Test.YtdeabmijoaepcaaFlt
namespace Go.Stk
open Ieee

theorem fld : double.signWeight = 9223372036854775808 ∧ double.binade = 4503599627370496 ∧ double.infRung = 9218868437227405312 ∧ double.leastPlace = -1074 ∧ double.fractionBits = 52 := by decide

/-- A number's rung: by its magnitude and its place. -/
theorem rung_of {b : Nat} {s : Bool} {m : Nat} {i : Int} (h : double.read b = .number s m i) : b % 9223372036854775808 = (i + 1074).toNat * 4503599627370496 + m ∧ s = (b / 9223372036854775808 % 2 == 1) ∧ -1074 ≤ i ∧ m < 9007199254740992 ∧ (i = -1074 ∨ 4503599627370496 ≤ m) ∧ b % 9223372036854775808 < 9218868437227405312 := by
  rcases read64 b with ⟨a, e⟩ | ⟨a, c, e⟩ | ⟨a, e⟩ | ⟨a, e⟩ <;> rw [e] at h <;> cases h
  · refine ⟨by omega, rfl, by omega, by omega, by omega, by omega⟩
  · refine ⟨?_, rfl, by omega, by omega, by omega, by omega⟩
    have := Nat.div_add_mod (b % 9223372036854775808) 4503599627370496
    omega

theorem log2_mul_pow (m k : Nat) (h : m ≠ 0) : (m * 2 ^ k).log2 = m.log2 + k := by
  have h1 := Nat.log2_self_le h
  have h2 := Nat.lt_log2_self (n := m)
  have hp : 0 < 2 ^ k := Nat.two_pow_pos k
  have hm : m * 2 ^ k ≠ 0 := Nat.mul_ne_zero h (by omega)
  apply Nat.le_antisymm
  · have : m * 2 ^ k < 2 ^ (m.log2 + k + 1) := by
      rw [show m.log2 + k + 1 = m.log2 + 1 + k by omega, Nat.pow_add]
      exact Nat.mul_lt_mul_of_pos_right h2 hp
    have := (Nat.log2_lt hm).2 this
    omega
  · rw [Nat.le_log2 hm, Nat.pow_add]
    exact Nat.mul_le_mul_right _ h1

/-- What is dropped is nothing: the even way keeps it. -/
theorem cut_even_exact (s : Bool) (m k : Nat) (h : m ≠ 0) : Toward.even.cut s (m * 2 ^ k) k = m := by
  have hl := log2_mul_pow m k h
  have hp : 0 < 2 ^ k := Nat.two_pow_pos k
  have hmin : min k ((m * 2 ^ k).log2 + 2) = k := by omega
  simp only [Toward.cut, hmin, shl, Nat.one_mul, Nat.mul_mod_left, Nat.mul_div_cancel m hp]
  have h1 : decide (2 ^ k < 2 * 0) = false := decide_eq_false (by omega)
  have h2 : (2 ^ k == 2 * 0) = false := by rw [beq_eq_false_iff_ne]; omega
  rw [h1, h2]; rfl

/-- An exact number of the format is its own nearest. -/
theorem nearest_exact {b : Nat} {s : Bool} {m : Nat} {i : Int} (h : double.read b = .number s m i) (t : Bool) (k : Nat) : double.nearest t (m * 2 ^ k) (i - k) = double.word t (b % 9223372036854775808) := by
  obtain ⟨hr, _, hi, hm, hn, hlt⟩ := rung_of h
  obtain ⟨f1, f2, f3, f4, f5⟩ := fld
  by_cases h0 : m = 0
  · subst h0
    have hi0 : i = -1074 := by omega
    subst hi0
    simp at hr
    simp [Format.nearest, hr]
  · have hm0 : m * 2 ^ k ≠ 0 := Nat.mul_ne_zero h0 (Nat.ne_of_gt (Nat.two_pow_pos k))
    have hl := log2_mul_pow m k h0
    have hl2 : m.log2 < 53 := (Nat.log2_lt h0).2 (by omega)
    have hl3 : i = -1074 ∨ m.log2 = 52 := by
      rcases hn with hn | hn
      · exact Or.inl hn
      · have := (Nat.le_log2 h0 (k := 52)).2 (by omega)
        right; omega
    simp only [Format.nearest, if_neg hm0, f2, f3, f4, f5, hl]
    have hlast : max (i - (k : Int) + ((m.log2 + k : Nat) : Int) - ((52 : Nat) : Int)) (-1074) = i := by omega
    rw [hlast]
    have e1 : (i - (k : Int) - i).toNat = 0 := by omega
    have e2 : (i - (i - (k : Int))).toNat = k := by omega
    rw [e1, e2, shl, Nat.pow_zero, Nat.mul_one, cut_even_exact _ m k h0]
    rw [Int.sub_neg, ← hr, Nat.min_eq_left (Nat.le_of_lt hlt)]

/-- The sign's bit turned. -/
def flipB (b : Nat) : Nat := if b / 9223372036854775808 % 2 == 1 then b % 9223372036854775808 else 9223372036854775808 + b % 9223372036854775808
theorem read_neg1 : double.read 13830554455654793216 = .number true 4503599627370496 (-52) := by decide
theorem neg_number {b : Nat} (h : (double.order b b != some .eq) = false) : double.mul 13830554455654793216 b = some (flipB b) := by
  obtain ⟨f1, f2, f3, f4, f5⟩ := fld
  unfold Format.order at h
  simp only [Format.mul, read_neg1]
  cases hr : double.read b with
  | nan s t => rw [hr] at h; simp [Datum.order] at h
  | infinity s =>
    rcases read64 b with ⟨a, e⟩ | ⟨a, c, e⟩ | ⟨a, e⟩ | ⟨a, e⟩ <;> rw [e] at hr <;> cases hr
    rw [flipB, a]
    cases (b / 9223372036854775808 % 2 == 1) <;> decide
  | number s m i =>
    obtain ⟨_, hs, _⟩ := rung_of hr
    simp only [Datum.product, Option.map_some, Format.write]
    have := nearest_exact hr (true ^^ s) 52
    rw [show (2 : Nat) ^ 52 = 4503599627370496 by decide, show i - ((52 : Nat) : Int) = -52 + i by omega, Nat.mul_comm m] at this
    rw [this, hs]
    simp only [Format.word, f1, flipB]
    cases (b / 9223372036854775808 % 2 == 1) <;> simp
theorem neg_nan {b : Nat} (h : (double.order b b != some .eq) = true) : double.mul 13830554455654793216 b = none := by
  unfold Format.order at h
  simp only [Format.mul, read_neg1]
  cases hr : double.read b with
  | nan s t => rfl
  | infinity s => rw [hr] at h; cases s <;> simp [Datum.order] at h
  | number s m i => rw [hr] at h; simp [Datum.order, compare, compareOfLessAndEq] at h
end Go.Stk
