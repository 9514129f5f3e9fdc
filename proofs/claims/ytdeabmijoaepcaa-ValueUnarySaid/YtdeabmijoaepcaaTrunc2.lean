/-
  The document's Truncate is the int of a float.
-/
import Derived.Test.YtdeabmijoaepcaaTrunc
namespace Go.Proofs.Ytdeabmijoaepcaa
open Go.RowKit Go.Stk Ieee

theorem cmp_ge {x y : Int} (h : y ≤ x) : (some (compare x y) == some Ordering.gt || some (compare x y) == some Ordering.eq) = true := by
  simp only [compare, compareOfLessAndEq, if_neg (show ¬ x < y by omega)]
  by_cases e : x = y
  · rw [if_pos e]; rfl
  · rw [if_neg e]; rfl
theorem cmp_lt {x y : Int} (h : x < y) : (some (compare x y) == some Ordering.lt) = true := by
  simp only [compare, compareOfLessAndEq, if_pos h]; rfl
theorem nan_num {b : Nat} {s : Bool} {m : Nat} {i : Int} (h : double.read b = .number s m i) : nanB b = false := by
  obtain ⟨_, _, _, _, _, hlt⟩ := rung_of h
  rw [nanB_iff]; exact decide_eq_false (by omega)
/-- A float below 2^63 by size: its int. -/
theorem toIntR_small {b : Nat} {s : Bool} {m : Nat} {i : Int} (h : double.read b = .number s m i) (hi : i ≤ 10) :
    toIntR b = okR (intA (signed s (Toward.zero.cut s (m <<< i.toNat) (-i).toNat) 0)) := by
  obtain ⟨hm, hi1, _⟩ := read64_number h
  have hnan := nan_num h
  obtain ⟨k, hk⟩ : ∃ k : Nat, (11 : Int) - i = k + 1 := ⟨(10 - i).toNat, by omega⟩
  have hbase : min i 11 = i := by omega
  have e1 : (i - i).toNat = 0 := by omega
  have e2 : ((11 : Int) - i).toNat = k + 1 := by omega
  have hp : 2 ≤ 2 ^ (k + 1) := by rw [Nat.pow_succ]; have := Nat.two_pow_pos k; omega
  have hbig : (9007199254740992 : Int) ≤ ((4503599627370496 * 2 ^ (k + 1) : Nat) : Int) := by
    have := Nat.mul_le_mul_left 4503599627370496 hp
    exact Int.ofNat_le.2 this
  generalize hW : ((4503599627370496 * 2 ^ (k + 1) : Nat) : Int) = W at hbig
  have hs : -(m : Int) ≤ signed s m 0 ∧ signed s m 0 ≤ m := by
    cases s
    · rw [signed_f, Nat.pow_zero, Nat.mul_one]; omega
    · rw [signed_t, Nat.pow_zero, Nat.mul_one]; omega
  have hge : (double.order b 4890909195324358656 == some .gt || double.order b 4890909195324358656 == some .eq) = false := by
    unfold Format.order; rw [h, read_top]
    simp only [Datum.order, hbase, e1, e2]
    exact cmp_not_ge (by rw [signed_f, hW]; omega)
  have hlt : (double.order b 14114281232179134464 == some .lt) = false := by
    unfold Format.order; rw [h, read_low]
    simp only [Datum.order, hbase, e1, e2]
    exact cmp_not_lt (by rw [signed_t, hW]; omega)
  obtain ⟨n, hn⟩ := toInt_fits b hnan hge hlt
  have hn2 : n = signed s (Toward.zero.cut s (m <<< i.toNat) (-i).toNat) 0 := by
    have e : floatToIntVal .f64 b .i64 = (match (Datum.toInt .zero (double.read b)) with | some n => if IntKind.i64.min ≤ n ∧ n ≤ IntKind.i64.max then some n else none | none => none) := rfl
    rw [e, h] at hn
    simp only [Datum.toInt, Datum.integral] at hn
    split at hn
    · exact (Option.some.inj hn).symm
    · cases hn
  unfold toIntR
  rw [hnan, show (FloatKind.f64.format.order b 4890909195324358656 == some .gt || FloatKind.f64.format.order b 4890909195324358656 == some .eq) = false from hge, show (FloatKind.f64.format.order b 14114281232179134464 == some .lt) = false from hlt, hn, hn2]
  rfl
theorem toIntR_big {b : Nat} {s : Bool} {m : Nat} {i : Int} (h : double.read b = .number s m i) (hi : 11 ≤ i) (hm : 4503599627370496 ≤ m) (hne : ¬ (s = true ∧ i = 11 ∧ m = 4503599627370496)) : toIntR b = badR 3 := by
  have hnan := nan_num h
  have hbase : min i 11 = 11 := by omega
  have e1 : (i - 11).toNat = (i - 11).toNat := rfl
  have e2 : ((11 : Int) - 11).toNat = 0 := by omega
  have hp := Nat.two_pow_pos (i - 11).toNat
  have hv : m ≤ m * 2 ^ (i - 11).toNat := Nat.le_mul_of_pos_right _ hp
  cases s with
  | false =>
    have hge : (double.order b 4890909195324358656 == some .gt || double.order b 4890909195324358656 == some .eq) = true := by
      unfold Format.order; rw [h, read_top]
      simp only [Datum.order, hbase, e2]
      refine cmp_ge ?_
      rw [signed_f, signed_f, Nat.pow_zero, Nat.mul_one]
      exact Int.ofNat_le.2 (Nat.le_trans hm hv)
    unfold toIntR
    rw [hnan, show (FloatKind.f64.format.order b 4890909195324358656 == some .gt || FloatKind.f64.format.order b 4890909195324358656 == some .eq) = true from hge]
    rfl
  | true =>
    have hv2 : 4503599627370496 < m * 2 ^ (i - 11).toNat := by
      by_cases hm2 : m = 4503599627370496
      · have hi2 : i ≠ 11 := fun e => hne ⟨rfl, e, hm2⟩
        have : 2 ≤ 2 ^ (i - 11).toNat := by
          obtain ⟨k, hk⟩ : ∃ k : Nat, (i - 11).toNat = k + 1 := ⟨(i - 12).toNat, by omega⟩
          rw [hk, Nat.pow_succ]; have := Nat.two_pow_pos k; omega
        rw [hm2]
        exact Nat.lt_of_lt_of_le (by decide) (Nat.mul_le_mul_left _ this)
      · exact Nat.lt_of_lt_of_le (by omega) hv
    have hlt : (double.order b 14114281232179134464 == some .lt) = true := by
      unfold Format.order; rw [h, read_low]
      simp only [Datum.order, hbase, e2]
      refine cmp_lt ?_
      rw [signed_t, signed_t, Nat.pow_zero, Nat.mul_one]
      exact Int.neg_lt_neg (Int.ofNat_lt.2 hv2)
    unfold toIntR
    rw [hnan, show (FloatKind.f64.format.order b 14114281232179134464 == some .lt) = true from hlt]
    cases (FloatKind.f64.format.order b 4890909195324358656 == some .gt || FloatKind.f64.format.order b 4890909195324358656 == some .eq) <;> rfl
theorem cut_none (s : Bool) {m k : Nat} (h : m < 2 ^ k) : Toward.zero.cut s m k = 0 := by
  simp only [Toward.cut, shl, Nat.one_mul, Bool.toNat_false, Nat.add_zero]
  apply Nat.div_eq_of_lt
  have h2 := Nat.lt_log2_self (n := m)
  rcases Nat.le_total k (m.log2 + 2) with hk | hk
  · rw [Nat.min_eq_left hk]; exact h
  · rw [Nat.min_eq_right hk]
    exact Nat.lt_of_lt_of_le h2 (Nat.pow_le_pow_right (by decide) (by omega))
theorem cut_some (s : Bool) {m k : Nat} (h : k ≤ m.log2 + 2) : Toward.zero.cut s m k = m / 2 ^ k := by
  simp only [Toward.cut, shl, Nat.one_mul, Nat.min_eq_left h, Bool.toNat_false, Nat.add_zero]
theorem signed_if (s : Bool) (v : Nat) : signed s v 0 = if s = true then -(v : Int) else (v : Int) := by
  cases s
  · rw [signed_f, Nat.pow_zero, Nat.mul_one]; rfl
  · rw [signed_t, Nat.pow_zero, Nat.mul_one]; rfl
theorem trunc_spec (b : Nat) (h : b < 18446744073709551616) : toIntR b = if (truncN b).2 then okR (intA (truncN b).1) else badR 3 := by
  have hE : b % 9223372036854775808 / 4503599627370496 = b / 4503599627370496 % 2048 := by omega
  have hr : b % 9223372036854775808 % 4503599627370496 = b % 4503599627370496 := by omega
  have hlt : b % 4503599627370496 < 4503599627370496 := Nat.mod_lt _ (by decide)
  have hs : (b / 9223372036854775808 % 2 == 1) = decide (b / 9223372036854775808 = 1) := by
    have : b / 9223372036854775808 < 2 := by omega
    rw [Nat.mod_eq_of_lt this]; rfl
  rcases read64 b with ⟨a, e⟩ | ⟨a, c, e⟩ | ⟨a, e⟩ | ⟨a, e⟩
  · -- a least one
    rw [toIntR_small e (by decide), show ((-1074 : Int)).toNat = 0 by decide, shl, Nat.pow_zero, Nat.mul_one, show (- (-1074 : Int)).toNat = 1074 by decide,
      cut_none _ (Nat.lt_of_lt_of_le (show b % 9223372036854775808 < 2 ^ 52 from a) (Nat.pow_le_pow_right (by decide) (by decide)))]
    have hE0 : b / 4503599627370496 % 2048 < 1023 := by omega
    simp only [truncN, if_pos hE0, if_true, signed_if]
    cases (b / 9223372036854775808 % 2 == 1) <;> rfl
  · rw [hE, hr] at e
    have hE1 : 1 ≤ b / 4503599627370496 % 2048 := by omega
    have hE2 : b / 4503599627370496 % 2048 < 2047 := by omega
    have hlog : (4503599627370496 + b % 4503599627370496).log2 = 52 := by
      have h1 : (4503599627370496 + b % 4503599627370496) ≠ 0 := by omega
      have h2 := (Nat.log2_lt h1 (k := 53)).2 (by omega)
      have h3 := (Nat.le_log2 h1 (k := 52)).2 (by omega)
      omega
    have hbig : 9007199254740992 = 2 ^ 53 := by decide
    unfold truncN
    generalize hEE : b / 4503599627370496 % 2048 = E at *
    generalize hrr : b % 4503599627370496 = r at *
    have hM : 4503599627370496 + r < 9007199254740992 := by omega
    rw [hs] at e
    generalize hMM : 4503599627370496 + r = M at *
    by_cases c1 : E < 1023
    · rw [toIntR_small e (by omega), show ((-1074 : Int) + ((E - 1 : Nat) : Int)).toNat = 0 by omega, shl, Nat.pow_zero, Nat.mul_one,
        show (-((-1074 : Int) + ((E - 1 : Nat) : Int))).toNat = 1075 - E by omega, cut_none _ (Nat.lt_of_lt_of_le hM (hbig ▸ Nat.pow_le_pow_right (by decide) (by omega)))]
      simp only [if_pos c1, if_true, signed_if]
      cases decide (b / 9223372036854775808 = 1) <;> rfl
    · by_cases c2 : E < 1075
      · rw [toIntR_small e (by omega), show ((-1074 : Int) + ((E - 1 : Nat) : Int)).toNat = 0 by omega, shl, Nat.pow_zero, Nat.mul_one,
          show (-((-1074 : Int) + ((E - 1 : Nat) : Int))).toNat = 1075 - E by omega, cut_some _ (by omega)]
        simp only [if_neg c1, if_pos c2, if_true, signed_if, decide_eq_true_eq]
      · by_cases c3 : E < 1086
        · rw [toIntR_small e (by omega), show ((-1074 : Int) + ((E - 1 : Nat) : Int)).toNat = E - 1075 by omega, shl,
            show (-((-1074 : Int) + ((E - 1 : Nat) : Int))).toNat = 0 by omega, cut_zero_nil]
          simp only [if_neg c1, if_neg c2, if_pos c3, if_true, signed_if, decide_eq_true_eq]
        · simp only [if_neg c1, if_neg c2, if_neg c3]
          by_cases hb : b = 14114281232179134464
          · subst hb; rfl
          · have hb2 : (b == 14114281232179134464) = false := by rw [beq_eq_false_iff_ne]; exact hb
            rw [hb2, toIntR_big e (by omega) (by omega) ?_]
            · rfl
            · rintro ⟨hd, hi, hm⟩
              have hd := of_decide_eq_true hd
              apply hb
              omega
  · have hE0 : b / 4503599627370496 % 2048 = 2047 := by omega
    have hb2 : (b == 14114281232179134464) = false := by rw [beq_eq_false_iff_ne]; intro hb; subst hb; simp at a
    simp only [truncN, hE0, hb2]
    have hnan : nanB b = false := by rw [nanB_iff]; exact decide_eq_false (by omega)
    unfold toIntR
    rw [hnan]
    unfold Ieee.Format.order
    rw [show FloatKind.f64.format.read b = _ from e]
    cases (b / 9223372036854775808 % 2 == 1) <;> rfl
  · have hE0 : b / 4503599627370496 % 2048 = 2047 := by omega
    have hb2 : (b == 14114281232179134464) = false := by rw [beq_eq_false_iff_ne]; intro hb; subst hb; simp at a
    simp only [truncN, hE0, hb2]
    have hnan : nanB b = true := by rw [nanB_iff]; exact decide_eq_true (by omega)
    unfold toIntR
    rw [hnan]; rfl
end Go.Proofs.Ytdeabmijoaepcaa
