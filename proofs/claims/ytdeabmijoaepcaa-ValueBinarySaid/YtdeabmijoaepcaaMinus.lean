/-
  The walk of ValueMinus.
-/
import Derived.Test.YtdeabmijoaepcaaInts
import Derived.Test.YtdeabmijoaepcaaFlt2
import Derived.Deep.RegionHeld3
namespace Go.Proofs.Ytdeabmijoaepcaa
open Go.RowKit Go.Stk
set_option maxHeartbeats 8000000

theorem unF (x C : Int) (w : World) (h : Hid (unR [45] ⟨2, 0, x⟩ = .tuple #[.agg #[.int .i64 2, .int .i64 0, .int .u64 C], .int .i64 0])) : Calls Try.prog 13 #[.string ⟨#[45]⟩, .agg #[.int .i64 2, .int .i64 0, .int .u64 x]] w (Ret w (.tuple #[.agg #[.int .i64 2, .int .i64 0, .int .u64 C], .int .i64 0])) := by
  have := unary_any ⟨#[45]⟩ ⟨2, 0, x⟩ w
  rw [bl] at this; rw [show unR (Array.toList #[45]) ⟨2, 0, x⟩ = _ from h] at this; exact this
theorem unI (x C : Int) (w : World) (h : Hid (wrap64 (-x) = C)) : Calls Try.prog 13 #[.string ⟨#[45]⟩, .agg #[.int .i64 1, .int .i64 x, .int .u64 0]] w (Ret w (.tuple #[.agg #[.int .i64 1, .int .i64 C, .int .u64 0], .int .i64 0])) := by
  have := unary_any ⟨#[45]⟩ ⟨1, x, 0⟩ w
  rw [bl] at this; subst h; exact this
theorem nanB_iff (b : Nat) : nanB b = decide (9218868437227405312 < b % 9223372036854775808) := by
  show (Ieee.double.order b b != some .eq) = _
  unfold Ieee.Format.order
  rcases read64 b with ⟨a, e⟩ | ⟨a, c, e⟩ | ⟨a, e⟩ | ⟨a, e⟩ <;> rw [e]
  · rw [decide_eq_false (by omega)]; simp [Ieee.Datum.order, compare, compareOfLessAndEq]
  · rw [decide_eq_false (by omega)]; simp [Ieee.Datum.order, compare, compareOfLessAndEq]
  · rw [decide_eq_false (by omega)]; cases (b / 9223372036854775808 % 2 == 1) <;> rfl
  · rw [decide_eq_true (by omega)]; rfl
theorem flipB_mod (b : Nat) : flipB b % 9223372036854775808 = b % 9223372036854775808 := by
  unfold flipB; split <;> omega
theorem flipB_flip (b : Nat) (h : b < 18446744073709551616) : flipB (flipB b) = b := by
  have := flipB_mod b
  have h2 : (flipB b / 9223372036854775808 % 2 == 1) = !(b / 9223372036854775808 % 2 == 1) := by
    unfold flipB
    cases e : (b / 9223372036854775808 % 2 == 1)
    · simp only [Bool.false_eq_true, if_false, Bool.not_false, beq_iff_eq]; omega
    · simp only [if_true, Bool.not_true, beq_eq_false_iff_ne]; omega
  rw [flipB, h2, this]
  cases e : (b / 9223372036854775808 % 2 == 1)
  · simp at e ⊢; omega
  · simp at e ⊢; omega
theorem unR_nan (b : Nat) (h : nanB b = true) : unR [45] ⟨2, 0, b⟩ = .tuple #[.agg #[.int .i64 2, .int .i64 0, .int .u64 9221120237041090561], .int .i64 0] := by
  have e : FloatKind.f64.format.mul 13830554455654793216 b = none := neg_nan h
  simp [unR, Val.good, okR, fltV, cameO, e]
theorem unR_flip (b : Nat) (h : nanB b = false) : unR [45] ⟨2, 0, b⟩ = .tuple #[.agg #[.int .i64 2, .int .i64 0, .int .u64 (flipB b : Nat)], .int .i64 0] := by
  have e : FloatKind.f64.format.mul 13830554455654793216 b = some (flipB b) := neg_number h
  have e2 : nanB (flipB b) = false := by rw [nanB_iff, flipB_mod, ← nanB_iff]; exact h
  simp [unR, Val.good, okR, fltV, cameO, e, cameB, e2]
theorem flip_xor (b : Nat) (h : b < 18446744073709551616) : flipB b = b ^^^ 9223372036854775808 := by
  apply Nat.eq_of_testBit_eq
  intro i
  rw [Nat.testBit_xor, show (9223372036854775808 : Nat) = 2 ^ 63 from rfl, Nat.testBit_two_pow]
  by_cases hb : b < 9223372036854775808
  · have e : flipB b = 2 ^ 63 + b := by unfold flipB; rw [if_neg (by simp; omega)]; simp; omega
    rw [e]
    rcases Nat.lt_trichotomy i 63 with hi | hi | hi
    · rw [Nat.testBit_two_pow_add_gt hi, decide_eq_false (by omega), Bool.xor_false]
    · subst hi; rw [Nat.testBit_two_pow_add_eq, Nat.testBit_lt_two_pow hb]; simp
    · have h2 : 2 ^ 63 + b < 2 ^ i := by
        have : 2 ^ 64 ≤ 2 ^ i := Nat.pow_le_pow_right (by omega) (by omega)
        omega
      rw [Nat.testBit_lt_two_pow h2, Nat.testBit_lt_two_pow (by omega)]; simp; omega
  · have e : flipB b = b % 2 ^ 63 := by unfold flipB; rw [if_pos (by simp; omega)]
    rw [e, Nat.testBit_mod_two_pow]
    have e2 : b = 2 ^ 63 + b % 2 ^ 63 := by omega
    rcases Nat.lt_trichotomy i 63 with hi | hi | hi
    · rw [decide_eq_true hi, decide_eq_false (by omega : ¬ 63 = i), Bool.xor_false, Bool.true_and]
    · subst hi; rw [e2, Nat.testBit_two_pow_add_eq, Nat.testBit_lt_two_pow (by omega)]; simp
    · have h2 : b < 2 ^ i := by
        have : 2 ^ 64 ≤ 2 ^ i := Nat.pow_le_pow_right (by omega) (by omega)
        omega
      rw [Nat.testBit_lt_two_pow h2]; simp; omega
theorem bits_xor (b : Nat) (h : b < 18446744073709551616) : bits BinOp.xor IntKind.u64 (b : Int) 9223372036854775808 = (flipB b: Nat) := by
  rw [flip_xor b h]
  have e1 : b % 2 ^ IntKind.u64.bits = b := Nat.mod_eq_of_lt h
  have hx : b ^^^ 9223372036854775808 < 2 ^ 64 := Nat.xor_lt_two_pow (n := 64) h (by decide)
  simp [bits, e1]
  rw [show 9223372036854775808 % 2 ^ IntKind.u64.bits = 9223372036854775808 from rfl]
  generalize b ^^^ 9223372036854775808 = u at *
  clear e1
  show IntKind.u64.wrap u = u
  have hs : IntKind.u64.signed = false := rfl
  simp [IntKind.wrap, hs, show IntKind.u64.bits = 64 from rfl]
  omega
theorem keep5 {B0 : Nat} {u0 v0 z0 : Value} {B1 : Nat} {u1 v1 z1 : Value} {B2 : Nat} {u2 v2 z2 : Value} {B3 : Nat} {u3 v3 z3 : Value} {B4 : Nat} {u4 v4 z4 : Value} {n : Nat} {w W W' : World} (h0 : L3 B0 u0 v0 z0 W) (h1 : L3 B1 u1 v1 z1 W) (h2 : L3 B2 u2 v2 z2 W) (h3 : L3 B3 u3 v3 z3 W) (h4 : L3 B4 u4 v4 z4 W) (hb : Below n w W) (hn : n ≤ W.heap.size) (hbx : Below W.heap.size W W') : W'.cell? ⟨B0, 0, none⟩ = some u0 ∧ W'.cell? ⟨B0, 1, none⟩ = some v0 ∧ W'.cell? ⟨B0, 2, none⟩ = some z0 ∧ B0 < W'.heap.size ∧ W'.cell? ⟨B1, 0, none⟩ = some u1 ∧ W'.cell? ⟨B1, 1, none⟩ = some v1 ∧ W'.cell? ⟨B1, 2, none⟩ = some z1 ∧ B1 < W'.heap.size ∧ W'.cell? ⟨B2, 0, none⟩ = some u2 ∧ W'.cell? ⟨B2, 1, none⟩ = some v2 ∧ W'.cell? ⟨B2, 2, none⟩ = some z2 ∧ B2 < W'.heap.size ∧ W'.cell? ⟨B3, 0, none⟩ = some u3 ∧ W'.cell? ⟨B3, 1, none⟩ = some v3 ∧ W'.cell? ⟨B3, 2, none⟩ = some z3 ∧ B3 < W'.heap.size ∧ W'.cell? ⟨B4, 0, none⟩ = some u4 ∧ W'.cell? ⟨B4, 1, none⟩ = some v4 ∧ W'.cell? ⟨B4, 2, none⟩ = some z4 ∧ B4 < W'.heap.size ∧ L3 B0 u0 v0 z0 W' ∧ L3 B1 u1 v1 z1 W' ∧ L3 B2 u2 v2 z2 W' ∧ L3 B3 u3 v3 z3 W' ∧ L3 B4 u4 v4 z4 W' ∧ n ≤ W'.heap.size ∧ Below n w W' :=
  ⟨(h0.later hbx).c0, (h0.later hbx).c1, (h0.later hbx).c2, (h0.later hbx).sz, (h1.later hbx).c0, (h1.later hbx).c1, (h1.later hbx).c2, (h1.later hbx).sz, (h2.later hbx).c0, (h2.later hbx).c1, (h2.later hbx).c2, (h2.later hbx).sz, (h3.later hbx).c0, (h3.later hbx).c1, (h3.later hbx).c2, (h3.later hbx).sz, (h4.later hbx).c0, (h4.later hbx).c1, (h4.later hbx).c2, (h4.later hbx).sz, h0.later hbx, h1.later hbx, h2.later hbx, h3.later hbx, h4.later hbx, Nat.le_trans hn hbx.size, below_then hb hn hbx⟩

theorem minus_nan (n x A  : Int) (w : World) (hx2 : (FloatKind.f64.format.order x.toNat x.toNat != some .eq) = true) (HA : Hid (wrap64 (-n) = A)) (HN : Hid (wrap64 (-A) = n)) (HC : Hid (unR [45] ⟨2, 0, x⟩ = .tuple #[.agg #[.int .i64 2, .int .i64 0, .int .u64 9221120237041090561], .int .i64 0])) (HD : Hid (unR [45] ⟨2, 0, 9221120237041090561⟩ = .tuple #[.agg #[.int .i64 2, .int .i64 0, .int .u64 9221120237041090561], .int .i64 0])) : Calls Try.prog 7 #[.int .i64 n, .int .u64 x] w (Ret w (.bool true)) := by
  have hf1 := fromBits_ext
  have hf2 := run_fromBits
  go_enter Try.func7, Try.ntmps7
  go_wp2_with fail
  refine (alive_any w).mono ?_
  rintro e w1 ⟨rfl, hbx⟩
  have hb := hbx
  clear hbx
  go_wp2_with fail
  refine (valInt_any n w1).mono ?_
  rintro e w2 ⟨rfl, hbx⟩
  replace hb := below_next hb hbx
  clear hbx
  go_wp2_with fail
  refine (unI n A w2 HA).mono ?_
  rintro e w3 ⟨rfl, hbx⟩
  replace hb := below_next hb hbx
  clear hbx
  go_wp2_with fail
  refine (unI A n (w3.alloc (.cells #[.int .i64 1, .int .i64 A, .int .u64 0] 24)) HN).mono ?_
  rintro e w4 ⟨rfl, hbx⟩
  have pa := (lc3_new w3 (.int .i64 1) (.int .i64 A) (.int .u64 0) 24)
  replace pa := pa.later hbx
  replace hbx := below_next (below_alloc (Below.refl w3.heap.size w3) (.cells #[.int .i64 1, .int .i64 A, .int .u64 0] 24)) hbx
  replace hb := below_next hb hbx
  clear hbx
  obtain ⟨c0pa, c1pa, c2pa, szpa⟩ := pa.all
  go_wp2_with fail
  refine (unF x 9221120237041090561 ((w4.alloc (.cells #[.int .i64 1, .int .i64 n, .int .u64 0] 24)).alloc (.cells #[.int .i64 2, .int .i64 0, .int .u64 x] 24)) HC).mono ?_
  rintro e w5 ⟨rfl, hbx⟩
  have pb := (lc3_new w4 (.int .i64 1) (.int .i64 n) (.int .u64 0) 24).later ((Below.refl (w4.alloc (.cells #[.int .i64 1, .int .i64 n, .int .u64 0] 24)).heap.size (w4.alloc (.cells #[.int .i64 1, .int .i64 n, .int .u64 0] 24))).alloc (Nat.le_refl _) (.cells #[.int .i64 2, .int .i64 0, .int .u64 x] 24))
  replace pb := pb.later hbx
  have pv := (lc3_new2 w4 (.cells #[.int .i64 1, .int .i64 n, .int .u64 0] 24) (.int .i64 2) (.int .i64 0) (.int .u64 x) 24)
  replace pv := pv.later hbx
  replace hbx := below_next (below_alloc (below_alloc (Below.refl w4.heap.size w4) (.cells #[.int .i64 1, .int .i64 n, .int .u64 0] 24)) (.cells #[.int .i64 2, .int .i64 0, .int .u64 x] 24)) hbx
  replace pa := pa.later hbx
  replace hb := below_next hb hbx
  clear hbx
  obtain ⟨c0pa, c1pa, c2pa, szpa⟩ := pa.all
  obtain ⟨c0pb, c1pb, c2pb, szpb⟩ := pb.all
  obtain ⟨c0pv, c1pv, c2pv, szpv⟩ := pv.all
  go_wp2_with fail
  refine (unF 9221120237041090561 9221120237041090561 (w5.alloc (.cells #[.int .i64 2, .int .i64 0, .int .u64 9221120237041090561] 24)) HD).mono ?_
  rintro e w6 ⟨rfl, hbx⟩
  have pc := (lc3_new w5 (.int .i64 2) (.int .i64 0) (.int .u64 9221120237041090561) 24)
  replace pc := pc.later hbx
  replace hbx := below_next (below_alloc (Below.refl w5.heap.size w5) (.cells #[.int .i64 2, .int .i64 0, .int .u64 9221120237041090561] 24)) hbx
  replace pa := pa.later hbx
  replace pb := pb.later hbx
  replace pv := pv.later hbx
  replace hb := below_next hb hbx
  clear hbx
  obtain ⟨c0pa, c1pa, c2pa, szpa⟩ := pa.all
  obtain ⟨c0pb, c1pb, c2pb, szpb⟩ := pb.all
  obtain ⟨c0pv, c1pv, c2pv, szpv⟩ := pv.all
  obtain ⟨c0pc, c1pc, c2pc, szpc⟩ := pc.all
  go_wp2_with fail
  have pd := (lc3_new w6 (.int .i64 2) (.int .i64 0) (.int .u64 9221120237041090561) 24)
  replace pd := pd.later (Below.refl (w6.alloc (.cells #[.int .i64 2, .int .i64 0, .int .u64 9221120237041090561] 24)).heap.size (w6.alloc (.cells #[.int .i64 2, .int .i64 0, .int .u64 9221120237041090561] 24))).drew
  have hbx := Below.drew (below_alloc (Below.refl w6.heap.size w6) (.cells #[.int .i64 2, .int .i64 0, .int .u64 9221120237041090561] 24))
  replace pa := pa.later hbx
  replace pb := pb.later hbx
  replace pv := pv.later hbx
  replace pc := pc.later hbx
  replace hb := below_next hb hbx
  clear hbx
  have hsz : w.heap.size ≤ w.heap.size := Nat.le_refl _
  have hS := keep5 pa pb pv pc pd hb hb.size (Below.refl _ _)
  clear pa pb pv pc pd hb
  go_region_held3 (fun w' => w'.cell? ⟨w3.heap.size, 0, none⟩ = some (.int .i64 1) ∧ w'.cell? ⟨w3.heap.size, 1, none⟩ = some (.int .i64 A) ∧ w'.cell? ⟨w3.heap.size, 2, none⟩ = some (.int .u64 0) ∧ w3.heap.size < w'.heap.size ∧ w'.cell? ⟨w4.heap.size, 0, none⟩ = some (.int .i64 1) ∧ w'.cell? ⟨w4.heap.size, 1, none⟩ = some (.int .i64 n) ∧ w'.cell? ⟨w4.heap.size, 2, none⟩ = some (.int .u64 0) ∧ w4.heap.size < w'.heap.size ∧ w'.cell? ⟨w4.heap.size + 1, 0, none⟩ = some (.int .i64 2) ∧ w'.cell? ⟨w4.heap.size + 1, 1, none⟩ = some (.int .i64 0) ∧ w'.cell? ⟨w4.heap.size + 1, 2, none⟩ = some (.int .u64 x) ∧ w4.heap.size + 1 < w'.heap.size ∧ w'.cell? ⟨w5.heap.size, 0, none⟩ = some (.int .i64 2) ∧ w'.cell? ⟨w5.heap.size, 1, none⟩ = some (.int .i64 0) ∧ w'.cell? ⟨w5.heap.size, 2, none⟩ = some (.int .u64 9221120237041090561) ∧ w5.heap.size < w'.heap.size ∧ w'.cell? ⟨w6.heap.size, 0, none⟩ = some (.int .i64 2) ∧ w'.cell? ⟨w6.heap.size, 1, none⟩ = some (.int .i64 0) ∧ w'.cell? ⟨w6.heap.size, 2, none⟩ = some (.int .u64 9221120237041090561) ∧ w6.heap.size < w'.heap.size ∧ L3 (w3.heap.size) (.int .i64 1) (.int .i64 A) (.int .u64 0) w' ∧ L3 (w4.heap.size) (.int .i64 1) (.int .i64 n) (.int .u64 0) w' ∧ L3 (w4.heap.size + 1) (.int .i64 2) (.int .i64 0) (.int .u64 x) w' ∧ L3 (w5.heap.size) (.int .i64 2) (.int .i64 0) (.int .u64 9221120237041090561) w' ∧ L3 (w6.heap.size) (.int .i64 2) (.int .i64 0) (.int .u64 9221120237041090561) w' ∧ w.heap.size ≤ w'.heap.size ∧ Below w.heap.size w w')
    (first | exact hS | assumption | (go_split_ands; refine keep5 ?_ ?_ ?_ ?_ ?_ ?_ ?_ hbx <;> assumption))
    (first
      | (go_at_call 17; refine (valInt_any _ _).mono ?_; rintro e w' ⟨rfl, hbx⟩))
  all_goals
    go_wp2
    go_ret
    exact ⟨rfl, (show _ ∧ _ ∧ _ ∧ _ ∧ _ ∧ _ ∧ _ ∧ _ ∧ _ ∧ _ ∧ _ ∧ _ ∧ _ ∧ _ ∧ _ ∧ _ ∧ _ ∧ _ ∧ _ ∧ _ ∧ _ ∧ _ ∧ _ ∧ _ ∧ _ ∧ _ ∧ Below w.heap.size w _ by assumption).2.2.2.2.2.2.2.2.2.2.2.2.2.2.2.2.2.2.2.2.2.2.2.2.2.2⟩

theorem minus_num (n x A C : Int) (w : World) (hx : (FloatKind.f64.format.order x.toNat x.toNat == some .eq) = true) (hx2 : (FloatKind.f64.format.order x.toNat x.toNat != some .eq) = false) (hxor : bits BinOp.xor IntKind.u64 x 9223372036854775808 = C) (HA : Hid (wrap64 (-n) = A)) (HN : Hid (wrap64 (-A) = n)) (HC : Hid (unR [45] ⟨2, 0, x⟩ = .tuple #[.agg #[.int .i64 2, .int .i64 0, .int .u64 C], .int .i64 0])) (HD : Hid (unR [45] ⟨2, 0, C⟩ = .tuple #[.agg #[.int .i64 2, .int .i64 0, .int .u64 x], .int .i64 0])) : Calls Try.prog 7 #[.int .i64 n, .int .u64 x] w (Ret w (.bool true)) := by
  have hf1 := fromBits_ext
  have hf2 := run_fromBits
  go_enter Try.func7, Try.ntmps7
  go_wp2_with fail
  refine (alive_any w).mono ?_
  rintro e w1 ⟨rfl, hbx⟩
  have hb := hbx
  clear hbx
  go_wp2_with fail
  refine (valInt_any n w1).mono ?_
  rintro e w2 ⟨rfl, hbx⟩
  replace hb := below_next hb hbx
  clear hbx
  go_wp2_with fail
  refine (unI n A w2 HA).mono ?_
  rintro e w3 ⟨rfl, hbx⟩
  replace hb := below_next hb hbx
  clear hbx
  go_wp2_with fail
  refine (unI A n (w3.alloc (.cells #[.int .i64 1, .int .i64 A, .int .u64 0] 24)) HN).mono ?_
  rintro e w4 ⟨rfl, hbx⟩
  have pa := (lc3_new w3 (.int .i64 1) (.int .i64 A) (.int .u64 0) 24)
  replace pa := pa.later hbx
  replace hbx := below_next (below_alloc (Below.refl w3.heap.size w3) (.cells #[.int .i64 1, .int .i64 A, .int .u64 0] 24)) hbx
  replace hb := below_next hb hbx
  clear hbx
  obtain ⟨c0pa, c1pa, c2pa, szpa⟩ := pa.all
  go_wp2_with fail
  refine (unF x C ((w4.alloc (.cells #[.int .i64 1, .int .i64 n, .int .u64 0] 24)).alloc (.cells #[.int .i64 2, .int .i64 0, .int .u64 x] 24)) HC).mono ?_
  rintro e w5 ⟨rfl, hbx⟩
  have pb := (lc3_new w4 (.int .i64 1) (.int .i64 n) (.int .u64 0) 24).later ((Below.refl (w4.alloc (.cells #[.int .i64 1, .int .i64 n, .int .u64 0] 24)).heap.size (w4.alloc (.cells #[.int .i64 1, .int .i64 n, .int .u64 0] 24))).alloc (Nat.le_refl _) (.cells #[.int .i64 2, .int .i64 0, .int .u64 x] 24))
  replace pb := pb.later hbx
  have pv := (lc3_new2 w4 (.cells #[.int .i64 1, .int .i64 n, .int .u64 0] 24) (.int .i64 2) (.int .i64 0) (.int .u64 x) 24)
  replace pv := pv.later hbx
  replace hbx := below_next (below_alloc (below_alloc (Below.refl w4.heap.size w4) (.cells #[.int .i64 1, .int .i64 n, .int .u64 0] 24)) (.cells #[.int .i64 2, .int .i64 0, .int .u64 x] 24)) hbx
  replace pa := pa.later hbx
  replace hb := below_next hb hbx
  clear hbx
  obtain ⟨c0pa, c1pa, c2pa, szpa⟩ := pa.all
  obtain ⟨c0pb, c1pb, c2pb, szpb⟩ := pb.all
  obtain ⟨c0pv, c1pv, c2pv, szpv⟩ := pv.all
  go_wp2_with fail
  refine (unF C x (w5.alloc (.cells #[.int .i64 2, .int .i64 0, .int .u64 C] 24)) HD).mono ?_
  rintro e w6 ⟨rfl, hbx⟩
  have pc := (lc3_new w5 (.int .i64 2) (.int .i64 0) (.int .u64 C) 24)
  replace pc := pc.later hbx
  replace hbx := below_next (below_alloc (Below.refl w5.heap.size w5) (.cells #[.int .i64 2, .int .i64 0, .int .u64 C] 24)) hbx
  replace pa := pa.later hbx
  replace pb := pb.later hbx
  replace pv := pv.later hbx
  replace hb := below_next hb hbx
  clear hbx
  obtain ⟨c0pa, c1pa, c2pa, szpa⟩ := pa.all
  obtain ⟨c0pb, c1pb, c2pb, szpb⟩ := pb.all
  obtain ⟨c0pv, c1pv, c2pv, szpv⟩ := pv.all
  obtain ⟨c0pc, c1pc, c2pc, szpc⟩ := pc.all
  go_wp2_with fail
  have pd := (lc3_new w6 (.int .i64 2) (.int .i64 0) (.int .u64 x) 24)
  replace pd := pd.later (Below.refl (w6.alloc (.cells #[.int .i64 2, .int .i64 0, .int .u64 x] 24)).heap.size (w6.alloc (.cells #[.int .i64 2, .int .i64 0, .int .u64 x] 24))).drew
  have hbx := Below.drew (below_alloc (Below.refl w6.heap.size w6) (.cells #[.int .i64 2, .int .i64 0, .int .u64 x] 24))
  replace pa := pa.later hbx
  replace pb := pb.later hbx
  replace pv := pv.later hbx
  replace pc := pc.later hbx
  replace hb := below_next hb hbx
  clear hbx
  have hsz : w.heap.size ≤ w.heap.size := Nat.le_refl _
  have hS := keep5 pa pb pv pc pd hb hb.size (Below.refl _ _)
  clear pa pb pv pc pd hb
  go_region_held3 (fun w' => w'.cell? ⟨w3.heap.size, 0, none⟩ = some (.int .i64 1) ∧ w'.cell? ⟨w3.heap.size, 1, none⟩ = some (.int .i64 A) ∧ w'.cell? ⟨w3.heap.size, 2, none⟩ = some (.int .u64 0) ∧ w3.heap.size < w'.heap.size ∧ w'.cell? ⟨w4.heap.size, 0, none⟩ = some (.int .i64 1) ∧ w'.cell? ⟨w4.heap.size, 1, none⟩ = some (.int .i64 n) ∧ w'.cell? ⟨w4.heap.size, 2, none⟩ = some (.int .u64 0) ∧ w4.heap.size < w'.heap.size ∧ w'.cell? ⟨w4.heap.size + 1, 0, none⟩ = some (.int .i64 2) ∧ w'.cell? ⟨w4.heap.size + 1, 1, none⟩ = some (.int .i64 0) ∧ w'.cell? ⟨w4.heap.size + 1, 2, none⟩ = some (.int .u64 x) ∧ w4.heap.size + 1 < w'.heap.size ∧ w'.cell? ⟨w5.heap.size, 0, none⟩ = some (.int .i64 2) ∧ w'.cell? ⟨w5.heap.size, 1, none⟩ = some (.int .i64 0) ∧ w'.cell? ⟨w5.heap.size, 2, none⟩ = some (.int .u64 C) ∧ w5.heap.size < w'.heap.size ∧ w'.cell? ⟨w6.heap.size, 0, none⟩ = some (.int .i64 2) ∧ w'.cell? ⟨w6.heap.size, 1, none⟩ = some (.int .i64 0) ∧ w'.cell? ⟨w6.heap.size, 2, none⟩ = some (.int .u64 x) ∧ w6.heap.size < w'.heap.size ∧ L3 (w3.heap.size) (.int .i64 1) (.int .i64 A) (.int .u64 0) w' ∧ L3 (w4.heap.size) (.int .i64 1) (.int .i64 n) (.int .u64 0) w' ∧ L3 (w4.heap.size + 1) (.int .i64 2) (.int .i64 0) (.int .u64 x) w' ∧ L3 (w5.heap.size) (.int .i64 2) (.int .i64 0) (.int .u64 C) w' ∧ L3 (w6.heap.size) (.int .i64 2) (.int .i64 0) (.int .u64 x) w' ∧ w.heap.size ≤ w'.heap.size ∧ Below w.heap.size w w')
    (first | exact hS | assumption | (go_split_ands; refine keep5 ?_ ?_ ?_ ?_ ?_ ?_ ?_ hbx <;> assumption))
    (first
      | (go_at_call 17; refine (valInt_any _ _).mono ?_; rintro e w' ⟨rfl, hbx⟩))
  all_goals
    go_wp2
    go_ret
    exact ⟨rfl, (show _ ∧ _ ∧ _ ∧ _ ∧ _ ∧ _ ∧ _ ∧ _ ∧ _ ∧ _ ∧ _ ∧ _ ∧ _ ∧ _ ∧ _ ∧ _ ∧ _ ∧ _ ∧ _ ∧ _ ∧ _ ∧ _ ∧ _ ∧ _ ∧ _ ∧ _ ∧ Below w.heap.size w _ by assumption).2.2.2.2.2.2.2.2.2.2.2.2.2.2.2.2.2.2.2.2.2.2.2.2.2.2⟩

theorem wfu64 {n : Int} (h : (Lit.int .u64 n).wf = true) : 0 ≤ n ∧ n ≤ 18446744073709551615 := by
  simp [Lit.wf] at h
  exact ⟨h.1, h.2⟩
theorem minus_law (n x : Int) (w : World) (h1 : -9223372036854775808 ≤ n) (h2 : n ≤ 9223372036854775807) (h3 : 0 ≤ x) (h4 : x ≤ 18446744073709551615) : Calls Try.prog 7 #[.int .i64 n, .int .u64 x] w (Ret w (.bool true)) := by
  obtain ⟨b, rfl⟩ : ∃ b : Nat, x = b := ⟨x.toNat, by omega⟩
  have HN : Hid (wrap64 (-wrap64 (-n)) = n) := by show wrap64 (-wrap64 (-n)) = n; unfold wrap64; omega
  cases hn : nanB b
  · have hx : (FloatKind.f64.format.order (b : Int).toNat (b : Int).toNat == some .eq) = true := by
      have : (FloatKind.f64.format.order b b != some .eq) = false := hn
      simpa using this
    refine minus_num n b _ (flipB b : Nat) w hx hn (bits_xor b (by omega)) (Lib.hid rfl) HN (Lib.hid (unR_flip b hn)) (Lib.hid ?_)
    · have h5 : nanB (flipB b) = false := by rw [nanB_iff, flipB_mod, ← nanB_iff]; exact hn
      have := unR_flip (flipB b) h5
      rw [flipB_flip b (by omega)] at this
      exact this
  · exact minus_nan n b _ w hn (Lib.hid rfl) HN (Lib.hid (unR_nan b hn)) (Lib.hid (unR_nan 9221120237041090561 (by rw [nanB_iff]; decide)))
end Go.Proofs.Ytdeabmijoaepcaa
