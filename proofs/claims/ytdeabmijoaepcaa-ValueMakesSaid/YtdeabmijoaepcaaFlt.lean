/-
  Plain facts on floats of 64 bits: what a word stands for; which floats fit an int.
-/
import Derived.Test.YtdeabmijoaepcaaVal2
import Derived.Laws.FloatArith
namespace Go.Stk
open Ieee

theorem read64 (b : Nat) :
    (b % 9223372036854775808 < 4503599627370496 ∧ double.read b = .number (b / 9223372036854775808 % 2 == 1) (b % 9223372036854775808) (-1074)) ∨
    (4503599627370496 ≤ b % 9223372036854775808 ∧ b % 9223372036854775808 < 9218868437227405312 ∧ double.read b = .number (b / 9223372036854775808 % 2 == 1) (4503599627370496 + b % 9223372036854775808 % 4503599627370496) (-1074 + ((b % 9223372036854775808 / 4503599627370496 - 1 : Nat) : Int))) ∨
    (b % 9223372036854775808 = 9218868437227405312 ∧ double.read b = .infinity (b / 9223372036854775808 % 2 == 1)) ∨
    (9218868437227405312 < b % 9223372036854775808 ∧ double.read b = .nan (b / 9223372036854775808 % 2 == 1) (b % 9223372036854775808 - 9218868437227405312)) := by
  have h1 : double.signWeight = 9223372036854775808 := by decide
  have h2 : double.binade = 4503599627370496 := by decide
  have h3 : double.infRung = 9218868437227405312 := by decide
  have h4 : double.leastPlace = -1074 := by decide
  simp only [Format.read, h1, h2, h3, h4]
  by_cases a : b % 9223372036854775808 < 4503599627370496
  · left; exact ⟨a, by rw [if_pos a]⟩
  · by_cases c : b % 9223372036854775808 < 9218868437227405312
    · right; left; exact ⟨by omega, c, by rw [if_neg a, if_pos c]⟩
    · by_cases d : b % 9223372036854775808 = 9218868437227405312
      · right; right; left; exact ⟨d, by rw [if_neg a, if_neg c, if_pos d]⟩
      · right; right; right; exact ⟨by omega, by rw [if_neg a, if_neg c, if_neg d]⟩

/-- A number's sign, magnitude, place: what holds of every word that is one. -/
theorem read64_number {b : Nat} {s : Bool} {m : Nat} {i : Int} (h : double.read b = .number s m i) : m < 9007199254740992 ∧ -1074 ≤ i ∧ i ≤ 971 := by
  rcases read64 b with ⟨a, e⟩ | ⟨a, c, e⟩ | ⟨a, e⟩ | ⟨a, e⟩ <;> rw [e] at h <;> cases h <;> refine ⟨?_, ?_, ?_⟩ <;> omega

theorem read_top : double.read 4890909195324358656 = .number false 4503599627370496 11 := by decide
theorem read_low : double.read 14114281232179134464 = .number true 4503599627370496 11 := by decide

theorem shl (m k : Nat) : m <<< k = m * 2 ^ k := Nat.shiftLeft_eq m k

theorem cut_zero (s : Bool) (n k : Nat) : Toward.zero.cut s n k ≤ n := by
  simp only [Toward.cut]
  have := Nat.div_le_self n (1 <<< min k (n.log2 + 2))
  simpa using this
theorem cut_zero_nil (s : Bool) (n : Nat) : Toward.zero.cut s n 0 = n := by
  simp [Toward.cut]

theorem cmp_below {x y : Int} (h : (some (compare x y) == some Ordering.gt || some (compare x y) == some Ordering.eq) = false) : x < y := by
  simp only [compare, compareOfLessAndEq] at h
  split at h
  · assumption
  · split at h <;> simp at h
theorem cmp_above {x y : Int} (h : (some (compare x y) == some Ordering.lt) = false) : y ≤ x := by
  simp only [compare, compareOfLessAndEq] at h
  split at h
  · simp at h
  · omega
theorem signed_f (m k : Nat) : signed false m k = ((m * 2 ^ k : Nat) : Int) := by simp only [signed, shl]; rfl
theorem signed_t (m k : Nat) : signed true m k = -((m * 2 ^ k : Nat) : Int) := by simp only [signed, shl]; rfl

/-- A float that is no NaN and lies between has an int. -/
theorem toInt_fits (b : Nat) (h : (double.order b b != some .eq) = false) (h1 : (double.order b 4890909195324358656 == some .gt || double.order b 4890909195324358656 == some .eq) = false) (h2 : (double.order b 14114281232179134464 == some .lt) = false) :
    ∃ n, floatToIntVal .f64 b .i64 = some n := by
  unfold Format.order at h h1 h2
  rw [read_top] at h1
  rw [read_low] at h2
  show ∃ n, (match (Datum.toInt .zero (double.read b)) with | some n => if IntKind.i64.min ≤ n ∧ n ≤ IntKind.i64.max then some n else none | none => none) = some n
  cases hr : double.read b with
  | nan s t => rw [hr] at h; simp [Datum.order] at h
  | infinity s => rw [hr] at h1 h2; cases s <;> simp [Datum.order] at h1 h2
  | number s m i =>
    rw [hr] at h1 h2
    obtain ⟨hm, hi1, hi2⟩ := read64_number hr
    simp only [Datum.order] at h1 h2
    simp only [Datum.toInt, Datum.integral]
    have key : (s = false → Toward.zero.cut s (m <<< i.toNat) (-i).toNat < 9223372036854775808) ∧ (s = true → Toward.zero.cut s (m <<< i.toNat) (-i).toNat ≤ 9223372036854775808) := by
      by_cases hi : i < 0
      · have e : i.toNat = 0 := by omega
        rw [e, shl]
        have := cut_zero s (m * 2 ^ 0) (-i).toNat
        simp at this
        constructor <;> intro <;> simp <;> omega
      · obtain ⟨k, rfl⟩ : ∃ k : Nat, i = k := ⟨i.toNat, by omega⟩
        have e : (-(k : Int)).toNat = 0 := by omega
        rw [e, cut_zero_nil, shl]
        simp only [Int.toNat_natCast]
        by_cases hk : k ≤ 11
        · have eb : min (k : Int) 11 = k := by omega
          have e1 : ((k : Int) - k).toNat = 0 := by omega
          have e2 : ((11 : Int) - k).toNat = 11 - k := by omega
          rw [eb, e1, e2] at h1 h2
          have hp : (2 : Nat) ^ (11 - k) * 2 ^ k = 2048 := by rw [← Nat.pow_add]; rw [show 11 - k + k = 11 by omega]
          constructor
          · rintro rfl
            have := cmp_below h1
            rw [signed_f, signed_f] at this
            replace this : m < 4503599627370496 * 2 ^ (11 - k) := by have := Int.ofNat_lt.mp this; simpa using this
            calc m * 2 ^ k < 4503599627370496 * 2 ^ (11 - k) * 2 ^ k := Nat.mul_lt_mul_of_pos_right this (Nat.two_pow_pos k)
              _ = 9223372036854775808 := by rw [Nat.mul_assoc, hp]
          · rintro rfl
            have := cmp_above h2
            rw [signed_t, signed_t] at this
            replace this : m ≤ 4503599627370496 * 2 ^ (11 - k) := by have := Int.ofNat_le.mp (Int.neg_le_neg_iff.mp this); simpa using this
            calc m * 2 ^ k ≤ 4503599627370496 * 2 ^ (11 - k) * 2 ^ k := Nat.mul_le_mul_right _ this
              _ = 9223372036854775808 := by rw [Nat.mul_assoc, hp]
        · have eb : min (k : Int) 11 = 11 := by omega
          have e1 : ((k : Int) - 11).toNat = k - 11 := by omega
          have e2 : ((11 : Int) - 11).toNat = 0 := by omega
          rw [eb, e1, e2] at h1 h2
          have hp : (2 : Nat) ^ (k - 11) * 2048 = 2 ^ k := by rw [show (2048 : Nat) = 2 ^ 11 from rfl, ← Nat.pow_add]; rw [show k - 11 + 11 = k by omega]
          rw [← hp, ← Nat.mul_assoc]
          constructor
          · rintro rfl
            have := cmp_below h1
            rw [signed_f, signed_f] at this
            have := Int.ofNat_lt.mp this
            omega
          · rintro rfl
            have := cmp_above h2
            rw [signed_t, signed_t] at this
            have := Int.ofNat_le.mp (Int.neg_le_neg_iff.mp this)
            omega
    have hmin : IntKind.i64.min = -9223372036854775808 := by decide
    have hmax : IntKind.i64.max = 9223372036854775807 := by decide
    rw [hmin, hmax]
    generalize Toward.zero.cut s (m <<< i.toNat) (-i).toNat = V at key
    cases s
    · have := key.1 rfl
      rw [signed_f]
      exact ⟨_, if_pos ⟨by first | (simp; done) | (simp; omega), by first | (simp; done) | (simp; omega)⟩⟩
    · have := key.2 rfl
      rw [signed_t]
      exact ⟨_, if_pos ⟨by first | (simp; done) | (simp; omega), by first | (simp; done) | (simp; omega)⟩⟩
end Go.Stk
