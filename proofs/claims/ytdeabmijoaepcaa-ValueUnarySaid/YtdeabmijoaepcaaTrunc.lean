/-
  The document's Truncate: its walk, and that it is the int of a float.
-/
import Derived.Test.YtdeabmijoaepcaaRef1
import Derived.Test.YtdeabmijoaepcaaFlt3
namespace Go.Proofs.Ytdeabmijoaepcaa
open Go.RowKit Go.Stk Ieee

theorem expo (b : Nat) (h : b < 18446744073709551616) : bits BinOp.and IntKind.i64 (wrap64 ((b : Int) / 4503599627370496)) 2047 = ((b / 4503599627370496 % 2048 : Nat) : Int) := by
  have e : wrap64 ((b : Int) / 4503599627370496) = ((b / 4503599627370496 : Nat) : Int) := by unfold wrap64; omega
  rw [e]
  generalize hq : b / 4503599627370496 = q
  have hq2 : q < 4096 := by omega
  show IntKind.i64.wrap ((BitVec.ofInt 64 (q : Int) &&& BitVec.ofInt 64 2047 : BitVec 64).toNat) = _
  have : (BitVec.ofInt 64 (q : Int) &&& BitVec.ofInt 64 2047 : BitVec 64).toNat = q % 2048 := by
    rw [BitVec.toNat_and, BitVec.toNat_ofInt, BitVec.toNat_ofInt]
    have e1 : ((q : Int) % ((2 ^ 64 : Nat) : Int)).toNat = q := by omega
    have e2 : ((2047 : Int) % ((2 ^ 64 : Nat) : Int)).toNat = 2 ^ 11 - 1 := by decide
    rw [e1, e2, Nat.and_two_pow_sub_one_eq_mod]
  rw [this, IntKind.wrap_i64]
  omega
theorem mant (b : Nat) (h : b < 18446744073709551616) : bits BinOp.or IntKind.u64 (bits BinOp.and IntKind.u64 (b : Int) 4503599627370495) 4503599627370496 = ((4503599627370496 + b % 4503599627370496 : Nat) : Int) := by
  have e : bits BinOp.and IntKind.u64 (b : Int) 4503599627370495 = ((b % 4503599627370496 : Nat) : Int) := by
    show IntKind.u64.wrap ((BitVec.ofInt 64 (b : Int) &&& BitVec.ofInt 64 4503599627370495 : BitVec 64).toNat) = _
    have : (BitVec.ofInt 64 (b : Int) &&& BitVec.ofInt 64 4503599627370495 : BitVec 64).toNat = b % 4503599627370496 := by
      rw [BitVec.toNat_and, BitVec.toNat_ofInt, BitVec.toNat_ofInt]
      have e1 : ((b : Int) % ((2 ^ 64 : Nat) : Int)).toNat = b := by omega
      have e2 : ((4503599627370495 : Int) % ((2 ^ 64 : Nat) : Int)).toNat = 2 ^ 52 - 1 := by decide
      rw [e1, e2, Nat.and_two_pow_sub_one_eq_mod]
    rw [this, IntKind.wrap_u64]
    omega
  rw [e]
  have hr : b % 4503599627370496 < 4503599627370496 := Nat.mod_lt _ (by decide)
  generalize b % 4503599627370496 = r at *
  show IntKind.u64.wrap ((BitVec.ofInt 64 (r : Int) ||| BitVec.ofInt 64 4503599627370496 : BitVec 64).toNat) = _
  have : (BitVec.ofInt 64 (r : Int) ||| BitVec.ofInt 64 4503599627370496 : BitVec 64).toNat = 4503599627370496 + r := by
    rw [BitVec.toNat_or, BitVec.toNat_ofInt, BitVec.toNat_ofInt]
    have e1 : ((r : Int) % ((2 ^ 64 : Nat) : Int)).toNat = r := by omega
    have e2 : ((4503599627370496 : Int) % ((2 ^ 64 : Nat) : Int)).toNat = 2 ^ 52 := by decide
    have := Nat.two_pow_add_eq_or_of_lt (i := 52) (b := r) (show r < 2 ^ 52 from hr) 1
    rw [e1, e2, Nat.or_comm]
    rw [Nat.mul_one] at this
    exact this.symm
  rw [this, IntKind.wrap_u64]
  omega
theorem tr_low (b E M : Nat) (w : World) (he : bits BinOp.and IntKind.i64 (wrap64 ((b : Int) / 4503599627370496)) 2047 = (E : Int)) (hm : bits BinOp.or IntKind.u64 (bits BinOp.and IntKind.u64 (b : Int) 4503599627370495) 4503599627370496 = (M : Int)) (h1023 : decide ((E : Int) < 1023) = true)  : Calls Try.prog 37 #[.int .u64 b] w (fun e w' => e = .returned (.tuple #[.int .i64 (0), .bool true]) ∧ w = w') := by
  go_enter Try.func37, Try.ntmps37
  go_wp2
  exact bodyPost_ret (v := .tuple #[.int .i64 (0), .bool true]) (by simp [results, Try.results37, go_sem]) rfl ⟨rfl, rfl⟩
theorem tr_midN (b E M : Nat) (w : World) (he : bits BinOp.and IntKind.i64 (wrap64 ((b : Int) / 4503599627370496)) 2047 = (E : Int)) (hm : bits BinOp.or IntKind.u64 (bits BinOp.and IntKind.u64 (b : Int) 4503599627370495) 4503599627370496 = (M : Int)) (h1023 : decide ((E : Int) < 1023) = false) (hs : ((b : Int) / 9223372036854775808 == 1) = true) (hp : (1023 : Int) ≤ E) (hp2 : (E : Int) < 1075) : Calls Try.prog 37 #[.int .u64 b] w (fun e w' => e = .returned (.tuple #[.int .i64 (wrap64 (-wrap64 ((M : Int) / 2 ^ (1075 - E)))), .bool true]) ∧ w = w') := by
  go_enter Try.func37, Try.ntmps37
  go_wp2
  exact bodyPost_ret (v := .tuple #[.int .i64 (wrap64 (-wrap64 ((M : Int) / 2 ^ (1075 - E)))), .bool true]) (by simp [results, Try.results37, go_sem]) rfl ⟨rfl, rfl⟩
theorem tr_midP (b E M : Nat) (w : World) (he : bits BinOp.and IntKind.i64 (wrap64 ((b : Int) / 4503599627370496)) 2047 = (E : Int)) (hm : bits BinOp.or IntKind.u64 (bits BinOp.and IntKind.u64 (b : Int) 4503599627370495) 4503599627370496 = (M : Int)) (h1023 : decide ((E : Int) < 1023) = false) (hs : ((b : Int) / 9223372036854775808 == 1) = false) (hp : (1023 : Int) ≤ E) (hp2 : (E : Int) < 1075) : Calls Try.prog 37 #[.int .u64 b] w (fun e w' => e = .returned (.tuple #[.int .i64 (wrap64 ((M : Int) / 2 ^ (1075 - E))), .bool true]) ∧ w = w') := by
  go_enter Try.func37, Try.ntmps37
  go_wp2
  exact bodyPost_ret (v := .tuple #[.int .i64 (wrap64 ((M : Int) / 2 ^ (1075 - E))), .bool true]) (by simp [results, Try.results37, go_sem]) rfl ⟨rfl, rfl⟩
theorem tr_highN (b E M : Nat) (w : World) (he : bits BinOp.and IntKind.i64 (wrap64 ((b : Int) / 4503599627370496)) 2047 = (E : Int)) (hm : bits BinOp.or IntKind.u64 (bits BinOp.and IntKind.u64 (b : Int) 4503599627370495) 4503599627370496 = (M : Int)) (h1023 : decide ((E : Int) < 1023) = false) (h1075 : decide ((E : Int) < 1075) = false) (hs : ((b : Int) / 9223372036854775808 == 1) = true) (hp : (1075 : Int) ≤ E) (hp2 : (E : Int) < 1086) : Calls Try.prog 37 #[.int .u64 b] w (fun e w' => e = .returned (.tuple #[.int .i64 (wrap64 (-wrap64 (IntKind.u64.wrap ((M : Int) * 2 ^ (E - 1023 - 52))))), .bool true]) ∧ w = w') := by
  go_enter Try.func37, Try.ntmps37
  go_wp2
  exact bodyPost_ret (v := .tuple #[.int .i64 (wrap64 (-wrap64 (IntKind.u64.wrap ((M : Int) * 2 ^ (E - 1023 - 52))))), .bool true]) (by simp [results, Try.results37, go_sem]) rfl ⟨rfl, rfl⟩
theorem tr_highP (b E M : Nat) (w : World) (he : bits BinOp.and IntKind.i64 (wrap64 ((b : Int) / 4503599627370496)) 2047 = (E : Int)) (hm : bits BinOp.or IntKind.u64 (bits BinOp.and IntKind.u64 (b : Int) 4503599627370495) 4503599627370496 = (M : Int)) (h1023 : decide ((E : Int) < 1023) = false) (h1075 : decide ((E : Int) < 1075) = false) (hs : ((b : Int) / 9223372036854775808 == 1) = false) (hp : (1075 : Int) ≤ E) (hp2 : (E : Int) < 1086) : Calls Try.prog 37 #[.int .u64 b] w (fun e w' => e = .returned (.tuple #[.int .i64 (wrap64 (IntKind.u64.wrap ((M : Int) * 2 ^ (E - 1023 - 52)))), .bool true]) ∧ w = w') := by
  go_enter Try.func37, Try.ntmps37
  go_wp2
  exact bodyPost_ret (v := .tuple #[.int .i64 (wrap64 (IntKind.u64.wrap ((M : Int) * 2 ^ (E - 1023 - 52)))), .bool true]) (by simp [results, Try.results37, go_sem]) rfl ⟨rfl, rfl⟩
theorem tr_out (b E M : Nat) (w : World) (he : bits BinOp.and IntKind.i64 (wrap64 ((b : Int) / 4503599627370496)) 2047 = (E : Int)) (hm : bits BinOp.or IntKind.u64 (bits BinOp.and IntKind.u64 (b : Int) 4503599627370495) 4503599627370496 = (M : Int)) (h1023 : decide ((E : Int) < 1023) = false) (h1075 : decide ((E : Int) < 1075) = false) (h1086 : decide ((E : Int) < 1086) = false)  : Calls Try.prog 37 #[.int .u64 b] w (fun e w' => e = .returned (.tuple #[.int .i64 (-9223372036854775808), .bool ((b : Int) == 14114281232179134464)]) ∧ w = w') := by
  go_enter Try.func37, Try.ntmps37
  go_wp2
  exact bodyPost_ret (v := .tuple #[.int .i64 (-9223372036854775808), .bool ((b : Int) == 14114281232179134464)]) (by simp [results, Try.results37, go_sem]) rfl ⟨rfl, rfl⟩

/-- What Truncate answers. -/
def truncN (b : Nat) : Int × Bool :=
  let E := b / 4503599627370496 % 2048
  let M := 4503599627370496 + b % 4503599627370496
  if E < 1023 then (0, true)
  else if E < 1075 then (if b / 9223372036854775808 = 1 then -((M / 2 ^ (1075 - E) : Nat) : Int) else ((M / 2 ^ (1075 - E) : Nat) : Int), true)
  else if E < 1086 then (if b / 9223372036854775808 = 1 then -((M * 2 ^ (E - 1075) : Nat) : Int) else ((M * 2 ^ (E - 1075) : Nat) : Int), true)
  else (-9223372036854775808, b == 14114281232179134464)
theorem w64 (v : Int) (h1 : -9223372036854775808 ≤ v) (h2 : v ≤ 9223372036854775807) : wrap64 v = v := by
  have := wrap_back v 0 h1 h2
  rwa [Int.zero_mul, Int.add_zero] at this
theorem pow_le_1024 {k : Nat} (h : k ≤ 10) : 2 ^ k ≤ 1024 := Nat.pow_le_pow_right (by decide) h
theorem trunc_any (b : Nat) (w : World) (h : b < 18446744073709551616) : Calls Try.prog 37 #[.int .u64 b] w (fun e w' => e = .returned (.tuple #[.int .i64 (truncN b).1, .bool (truncN b).2]) ∧ w = w') := by
  have he := expo b h
  have hm := mant b h
  have hM1 : b % 4503599627370496 < 4503599627370496 := Nat.mod_lt _ (by decide)
  have hE1 : b / 4503599627370496 % 2048 < 2048 := Nat.mod_lt _ (by decide)
  have hs0 : b / 9223372036854775808 < 2 := by omega
  unfold truncN
  generalize b / 4503599627370496 % 2048 = E at *
  generalize b % 4503599627370496 = r at *
  by_cases c1 : E < 1023
  · simp only [if_pos c1]
    exact tr_low b E _ w he hm (decide_eq_true (by omega))
  · by_cases c2 : E < 1075
    · simp only [if_neg c1, if_pos c2]
      have hq : (4503599627370496 + r) / 2 ^ (1075 - E) ≤ 4503599627370496 + r := Nat.div_le_self _ _
      have hc : (((4503599627370496 + r : Nat) : Int)) / 2 ^ (1075 - E) = (((4503599627370496 + r) / 2 ^ (1075 - E) : Nat) : Int) := by
        rw [Int.natCast_ediv]; rfl
      generalize (4503599627370496 + r) / 2 ^ (1075 - E) = v at *
      by_cases cs : b / 9223372036854775808 = 1
      · have := tr_midN b E _ w he hm (decide_eq_false (by omega)) (by rw [beq_iff_eq]; omega) (by omega) (by omega)
        rw [hc, w64 (v : Int) (by omega) (by omega), w64 (-(v : Int)) (by omega) (by omega)] at this
        simp only [if_pos cs]; exact this
      · have := tr_midP b E _ w he hm (decide_eq_false (by omega)) (by rw [beq_eq_false_iff_ne]; omega) (by omega) (by omega)
        rw [hc, w64 (v : Int) (by omega) (by omega)] at this
        simp only [if_neg cs]; exact this
    · by_cases c3 : E < 1086
      · simp only [if_neg c1, if_neg c2, if_pos c3]
        have hk : E - 1023 - 52 = E - 1075 := by omega
        have hp := pow_le_1024 (show E - 1075 ≤ 10 by omega)
        have hq : (4503599627370496 + r) * 2 ^ (E - 1075) < 9223372036854775808 :=
          Nat.lt_of_le_of_lt (Nat.mul_le_mul_left _ hp) (by omega)
        have hc : (((4503599627370496 + r : Nat) : Int)) * 2 ^ (E - 1075) = (((4503599627370496 + r) * 2 ^ (E - 1075) : Nat) : Int) := by
          rw [Int.natCast_mul, Int.natCast_pow]; rfl
        generalize (4503599627370496 + r) * 2 ^ (E - 1075) = v at *
        by_cases cs : b / 9223372036854775808 = 1
        · have := tr_highN b E _ w he hm (decide_eq_false (by omega)) (decide_eq_false (by omega)) (by rw [beq_iff_eq]; omega) (by omega) (by omega)
          rw [hk, hc, IntKind.wrap_u64, Int.emod_eq_of_lt (by omega) (by omega), w64 (v : Int) (by omega) (by omega), w64 (-(v : Int)) (by omega) (by omega)] at this
          simp only [if_pos cs]; exact this
        · have := tr_highP b E _ w he hm (decide_eq_false (by omega)) (decide_eq_false (by omega)) (by rw [beq_eq_false_iff_ne]; omega) (by omega) (by omega)
          rw [hk, hc, IntKind.wrap_u64, Int.emod_eq_of_lt (by omega) (by omega), w64 (v : Int) (by omega) (by omega)] at this
          simp only [if_neg cs]; exact this
      · simp only [if_neg c1, if_neg c2, if_neg c3]
        have := tr_out b E _ w he hm (decide_eq_false (by omega)) (decide_eq_false (by omega)) (decide_eq_false (by omega))
        rw [show ((b : Int) == 14114281232179134464) = (b == 14114281232179134464) by
          cases hb : (b == 14114281232179134464)
          · rw [beq_eq_false_iff_ne] at hb ⊢; omega
          · rw [beq_iff_eq] at hb ⊢; omega] at this
        exact this
end Go.Proofs.Ytdeabmijoaepcaa
