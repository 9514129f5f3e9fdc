/-
  Plain facts on floats of 64 bits: which are the same.
-/
import Derived.Test.YtdeabmijoaepcaaMinus
namespace Go.Proofs.Ytdeabmijoaepcaa
open Go.RowKit Go.Stk Ieee

theorem signed_eq {s t : Bool} {x y I J : Nat} (h : signed s x I = signed t y J) : x * 2 ^ I = y * 2 ^ J ∧ (s = t ∨ x * 2 ^ I = 0) := by
  cases s <;> cases t <;> simp only [signed_f, signed_t] at h
  · exact ⟨by omega, Or.inl rfl⟩
  · exact ⟨by omega, Or.inr (by omega)⟩
  · exact ⟨by omega, Or.inr (by omega)⟩
  · exact ⟨by omega, Or.inl rfl⟩
theorem cmp_eq {x y : Int} (h : compare x y = Ordering.eq) : x = y := by
  simp only [compare, compareOfLessAndEq] at h
  split at h
  · cases h
  · split at h
    · assumption
    · cases h
theorem cmp_refl (x : Int) : compare x x = Ordering.eq := by
  simp [compare, compareOfLessAndEq]
theorem twice {m n J : Nat} (hm : m < 9007199254740992) (hn : 4503599627370496 ≤ n) (hJ : 1 ≤ J) (h : m = n * 2 ^ J) : False := by
  obtain ⟨k, rfl⟩ : ∃ k, J = k + 1 := ⟨J - 1, by omega⟩
  have hp := Nat.two_pow_pos k
  have : n * 2 ≤ n * 2 ^ (k + 1) := Nat.mul_le_mul_left _ (by rw [Nat.pow_succ]; omega)
  omega
theorem order_same (a b : Nat) (ha : a < 18446744073709551616) (hb : b < 18446744073709551616) (h : double.order a b = some .eq) : a = b ∨ (a % 9223372036854775808 = 0 ∧ b % 9223372036854775808 = 0) := by
  unfold Format.order at h
  cases hx : double.read a with
  | nan s t => rw [hx] at h; simp [Datum.order] at h
  | infinity s =>
    cases hy : double.read b with
    | nan s t => rw [hx, hy] at h; simp [Datum.order] at h
    | number t n j => rw [hx, hy] at h; cases s <;> simp [Datum.order] at h
    | infinity t =>
      rw [hx, hy] at h
      have hst : s = t := by cases s <;> cases t <;> simp [Datum.order] at h ⊢ <;> revert h <;> decide
      subst hst
      left
      rcases read64 a with ⟨c, e⟩ | ⟨c, c2, e⟩ | ⟨c, e⟩ | ⟨c, e⟩ <;> rw [e] at hx <;> cases hx
      rcases read64 b with ⟨d, e2⟩ | ⟨d, d2, e2⟩ | ⟨d, e2⟩ | ⟨d, e2⟩ <;> rw [e2] at hy <;> first | (injection hy with hy) | (injection hy)
      rw [Nat.mod_eq_of_lt (by omega : b / 9223372036854775808 < 2), Nat.mod_eq_of_lt (by omega : a / 9223372036854775808 < 2)] at hy
      have : b / 9223372036854775808 = a / 9223372036854775808 := by
        rcases (by omega : a / 9223372036854775808 = 0 ∨ a / 9223372036854775808 = 1) with q | q <;> rcases (by omega : b / 9223372036854775808 = 0 ∨ b / 9223372036854775808 = 1) with r | r <;> rw [q, r] at hy ⊢ <;> first | rfl | (exact absurd hy (by decide))
      omega
  | number s m i =>
    cases hy : double.read b with
    | nan s t => rw [hx, hy] at h; simp [Datum.order] at h
    | infinity t => rw [hx, hy] at h; cases t <;> simp [Datum.order] at h
    | number t n j =>
      rw [hx, hy] at h
      obtain ⟨r1, s1, i1, m1, k1, _⟩ := rung_of hx
      obtain ⟨r2, s2, i2, m2, k2, _⟩ := rung_of hy
      simp only [Datum.order, Option.some.injEq] at h
      obtain ⟨e1, e2⟩ := signed_eq (cmp_eq h)
      have hij : i = j := by
        rcases Int.lt_trichotomy i j with q | q | q
        · exfalso
          rw [show (i - min i j).toNat = 0 by omega, Nat.pow_zero, Nat.mul_one] at e1
          exact twice m1 (by omega) (show 1 ≤ (j - min i j).toNat by omega) e1
        · exact q
        · exfalso
          rw [show (j - min i j).toNat = 0 by omega, Nat.pow_zero, Nat.mul_one] at e1
          exact twice m2 (by omega) (show 1 ≤ (i - min i j).toNat by omega) e1.symm
      subst hij
      rw [show (i - min i i).toNat = 0 by omega] at e1 e2
      simp only [Nat.pow_zero, Nat.mul_one] at e1 e2
      subst e1
      rcases e2 with e2 | e2
      · left
        rw [s1, s2, Nat.mod_eq_of_lt (by omega : b / 9223372036854775808 < 2), Nat.mod_eq_of_lt (by omega : a / 9223372036854775808 < 2)] at e2
        have : b / 9223372036854775808 = a / 9223372036854775808 := by
          rcases (by omega : a / 9223372036854775808 = 0 ∨ a / 9223372036854775808 = 1) with q | q <;> rcases (by omega : b / 9223372036854775808 = 0 ∨ b / 9223372036854775808 = 1) with r | r <;> rw [q, r] at e2 ⊢ <;> first | rfl | (exact absurd e2 (by decide))
        omega
      · right
        have : i = -1074 := by omega
        subst this
        subst e2
        simp at r1 r2
        exact ⟨r1, r2⟩
theorem order_zero {a b : Nat} (ha : a % 9223372036854775808 = 0) (hb : b % 9223372036854775808 = 0) : double.order a b = some .eq := by
  unfold Format.order
  rcases read64 a with ⟨c, e⟩ | ⟨c, c2, e⟩ | ⟨c, e⟩ | ⟨c, e⟩ <;> rcases read64 b with ⟨d, e2⟩ | ⟨d, d2, e2⟩ | ⟨d, e2⟩ | ⟨d, e2⟩ <;> first | omega | skip
  rw [e, e2, ha, hb]
  cases (a / 9223372036854775808 % 2 == 1) <;> cases (b / 9223372036854775808 % 2 == 1) <;> rfl
theorem order_none {a b : Nat} (h : double.order a b = none) : nanB a = true ∨ nanB b = true := by
  cases ha : nanB a
  · cases hb : nanB b
    · rw [nanB_iff] at ha hb
      have ha := of_decide_eq_false ha
      have hb := of_decide_eq_false hb
      exfalso
      unfold Format.order at h
      rcases read64 a with ⟨c, e⟩ | ⟨c, c2, e⟩ | ⟨c, e⟩ | ⟨c, e⟩ <;> rcases read64 b with ⟨d, e2⟩ | ⟨d, d2, e2⟩ | ⟨d, e2⟩ | ⟨d, e2⟩ <;> first | omega | (rw [e, e2] at h; simp [Datum.order] at h)
    · exact Or.inr rfl
  · exact Or.inl rfl
theorem order_nan {a b : Nat} (h : nanB a = true ∨ nanB b = true) : double.order a b = none := by
  rw [nanB_iff, nanB_iff] at h
  have h : 9218868437227405312 < a % 9223372036854775808 ∨ 9218868437227405312 < b % 9223372036854775808 := by simpa using h
  unfold Format.order
  rcases read64 a with ⟨c, e⟩ | ⟨c, c2, e⟩ | ⟨c, e⟩ | ⟨c, e⟩ <;> rcases read64 b with ⟨d, e2⟩ | ⟨d, d2, e2⟩ | ⟨d, e2⟩ | ⟨d, e2⟩ <;> first | omega | (rw [e, e2]; rfl)
end Go.Proofs.Ytdeabmijoaepcaa
