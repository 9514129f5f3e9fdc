/-
  The walk of the document's order of two values.
-/
import Derived.Test.YtdeabmijoaepcaaRef1
import Derived.Deep.QuietTactic
namespace Go.Proofs.Ytdeabmijoaepcaa
open Go.RowKit Go.Stk

theorem refNaN_at (a : Int) (z : Bool) (w : World) (h0 : 0 ≤ a) (h : Hid (nanB a.toNat = z)) : Calls Try.prog 21 #[.int .u64 a] w (fun e w' => e = .returned (.bool z) ∧ w = w') := by
  obtain ⟨b, rfl⟩ : ∃ b : Nat, a = b := ⟨a.toNat, by omega⟩
  have := refNaN_any b w
  rwa [show nanB b = z from h] at this
theorem below_drewN {w W : World} (h : Below w.heap.size w W) (n : Nat) : Below w.heap.size w (W.drewN n) := by
  exact ⟨h.os, h.tape, h.output, h.size, h.block⟩
theorem ord_nan1 (a b : Val) (w : World) (h2 : (a.t == 2) = true) (h0 : 0 ≤ a.b) (HA : Hid (nanB a.b.toNat = true)) : Calls Try.prog 43 #[.agg #[.int .i64 a.t, .int .i64 a.n, .int .u64 a.b], .agg #[.int .i64 b.t, .int .i64 b.n, .int .u64 b.b]] w (Ret w (.int .i64 (2))) := by
  have h91 := fromBits_ext
  have h92 := run_fromBits
  go_enter Try.func43, Try.ntmps43
  go_wp2_with fail
  go_quiet (fail)
  go_wp2_with fail
  refine (refNaN_at a.b true _ h0 HA).mono ?_
  rintro e w' ⟨rfl, rfl⟩
  go_wp2
  go_ret
  exact ⟨rfl, by repeat (first | exact Below.refl _ _ | refine below_drewN ?_ _ | refine below_alloc ?_ _)⟩
theorem ord_nan2 (a b : Val) (w : World) (h2 : (a.t == 2) = true) (h0 : 0 ≤ a.b) (h1 : 0 ≤ b.b) (HA : Hid (nanB a.b.toNat = false)) (HB : Hid (nanB b.b.toNat = true)) : Calls Try.prog 43 #[.agg #[.int .i64 a.t, .int .i64 a.n, .int .u64 a.b], .agg #[.int .i64 b.t, .int .i64 b.n, .int .u64 b.b]] w (Ret w (.int .i64 (2))) := by
  have h91 := fromBits_ext
  have h92 := run_fromBits
  go_enter Try.func43, Try.ntmps43
  go_wp2_with fail
  go_quiet (fail)
  go_wp2_with fail
  refine (refNaN_at a.b false _ h0 HA).mono ?_
  rintro e w' ⟨rfl, rfl⟩
  go_wp2_with fail
  refine (refNaN_at b.b true _ h1 HB).mono ?_
  rintro e w' ⟨rfl, rfl⟩
  go_wp2
  go_ret
  exact ⟨rfl, by repeat (first | exact Below.refl _ _ | refine below_drewN ?_ _ | refine below_alloc ?_ _)⟩
theorem ord_flt (a b : Val) (w : World) (h2 : (a.t == 2) = true) (h0 : 0 ≤ a.b) (h1 : 0 ≤ b.b) (HA : Hid (nanB a.b.toNat = false)) (HB : Hid (nanB b.b.toNat = false)) (hl : (FloatKind.f64.format.order a.b.toNat b.b.toNat == some .lt) = true) : Calls Try.prog 43 #[.agg #[.int .i64 a.t, .int .i64 a.n, .int .u64 a.b], .agg #[.int .i64 b.t, .int .i64 b.n, .int .u64 b.b]] w (Ret w (.int .i64 (-1))) := by
  have h91 := fromBits_ext
  have h92 := run_fromBits
  go_enter Try.func43, Try.ntmps43
  go_wp2_with fail
  go_quiet (fail)
  go_wp2_with fail
  refine (refNaN_at a.b false _ h0 HA).mono ?_
  rintro e w' ⟨rfl, rfl⟩
  go_wp2_with fail
  refine (refNaN_at b.b false _ h1 HB).mono ?_
  rintro e w' ⟨rfl, rfl⟩
  go_wp2
  go_ret
  exact ⟨rfl, by repeat (first | exact Below.refl _ _ | refine below_drewN ?_ _ | refine below_alloc ?_ _)⟩
theorem ord_fgt (a b : Val) (w : World) (h2 : (a.t == 2) = true) (h0 : 0 ≤ a.b) (h1 : 0 ≤ b.b) (HA : Hid (nanB a.b.toNat = false)) (HB : Hid (nanB b.b.toNat = false)) (hl : (FloatKind.f64.format.order a.b.toNat b.b.toNat == some .lt) = false) (hg : (FloatKind.f64.format.order a.b.toNat b.b.toNat == some .gt) = true) : Calls Try.prog 43 #[.agg #[.int .i64 a.t, .int .i64 a.n, .int .u64 a.b], .agg #[.int .i64 b.t, .int .i64 b.n, .int .u64 b.b]] w (Ret w (.int .i64 (1))) := by
  have h91 := fromBits_ext
  have h92 := run_fromBits
  go_enter Try.func43, Try.ntmps43
  go_wp2_with fail
  go_quiet (fail)
  go_wp2_with fail
  refine (refNaN_at a.b false _ h0 HA).mono ?_
  rintro e w' ⟨rfl, rfl⟩
  go_wp2_with fail
  refine (refNaN_at b.b false _ h1 HB).mono ?_
  rintro e w' ⟨rfl, rfl⟩
  go_wp2
  go_ret
  exact ⟨rfl, by repeat (first | exact Below.refl _ _ | refine below_drewN ?_ _ | refine below_alloc ?_ _)⟩
theorem ord_feq (a b : Val) (w : World) (h2 : (a.t == 2) = true) (h0 : 0 ≤ a.b) (h1 : 0 ≤ b.b) (HA : Hid (nanB a.b.toNat = false)) (HB : Hid (nanB b.b.toNat = false)) (hl : (FloatKind.f64.format.order a.b.toNat b.b.toNat == some .lt) = false) (hg : (FloatKind.f64.format.order a.b.toNat b.b.toNat == some .gt) = false) : Calls Try.prog 43 #[.agg #[.int .i64 a.t, .int .i64 a.n, .int .u64 a.b], .agg #[.int .i64 b.t, .int .i64 b.n, .int .u64 b.b]] w (Ret w (.int .i64 (0))) := by
  have h91 := fromBits_ext
  have h92 := run_fromBits
  go_enter Try.func43, Try.ntmps43
  go_wp2_with fail
  go_quiet (fail)
  go_wp2_with fail
  refine (refNaN_at a.b false _ h0 HA).mono ?_
  rintro e w' ⟨rfl, rfl⟩
  go_wp2_with fail
  refine (refNaN_at b.b false _ h1 HB).mono ?_
  rintro e w' ⟨rfl, rfl⟩
  go_wp2
  go_ret
  exact ⟨rfl, by repeat (first | exact Below.refl _ _ | refine below_drewN ?_ _ | refine below_alloc ?_ _)⟩
theorem ord_ilt (a b : Val) (w : World) (h2 : (a.t == 2) = false) (hl : decide (a.n < b.n) = true) : Calls Try.prog 43 #[.agg #[.int .i64 a.t, .int .i64 a.n, .int .u64 a.b], .agg #[.int .i64 b.t, .int .i64 b.n, .int .u64 b.b]] w (Ret w (.int .i64 (-1))) := by
  have h91 := fromBits_ext
  have h92 := run_fromBits
  go_enter Try.func43, Try.ntmps43
  go_wp2
  go_ret
  exact ⟨rfl, by repeat (first | exact Below.refl _ _ | refine below_drewN ?_ _ | refine below_alloc ?_ _)⟩
theorem ord_igt (a b : Val) (w : World) (h2 : (a.t == 2) = false) (hl : decide (a.n < b.n) = false) (hg : decide (b.n < a.n) = true) : Calls Try.prog 43 #[.agg #[.int .i64 a.t, .int .i64 a.n, .int .u64 a.b], .agg #[.int .i64 b.t, .int .i64 b.n, .int .u64 b.b]] w (Ret w (.int .i64 (1))) := by
  have h91 := fromBits_ext
  have h92 := run_fromBits
  go_enter Try.func43, Try.ntmps43
  go_wp2
  go_ret
  exact ⟨rfl, by repeat (first | exact Below.refl _ _ | refine below_drewN ?_ _ | refine below_alloc ?_ _)⟩
theorem ord_ieq (a b : Val) (w : World) (h2 : (a.t == 2) = false) (hl : decide (a.n < b.n) = false) (hg : decide (b.n < a.n) = false) : Calls Try.prog 43 #[.agg #[.int .i64 a.t, .int .i64 a.n, .int .u64 a.b], .agg #[.int .i64 b.t, .int .i64 b.n, .int .u64 b.b]] w (Ret w (.int .i64 (0))) := by
  have h91 := fromBits_ext
  have h92 := run_fromBits
  go_enter Try.func43, Try.ntmps43
  go_wp2
  go_ret
  exact ⟨rfl, by repeat (first | exact Below.refl _ _ | refine below_drewN ?_ _ | refine below_alloc ?_ _)⟩

/-- What the document's order answers. -/
def ordR (a b : Val) : Int :=
  if a.t = 2 then (if nanB a.b.toNat = true then 2 else if nanB b.b.toNat = true then 2 else if FloatKind.f64.format.order a.b.toNat b.b.toNat = some .lt then -1 else if FloatKind.f64.format.order a.b.toNat b.b.toNat = some .gt then 1 else 0)
  else if a.n < b.n then -1 else if b.n < a.n then 1 else 0
theorem ord_any (a b : Val) (w : World) (h0 : 0 ≤ a.b) (h1 : 0 ≤ b.b) : Calls Try.prog 43 #[.agg #[.int .i64 a.t, .int .i64 a.n, .int .u64 a.b], .agg #[.int .i64 b.t, .int .i64 b.n, .int .u64 b.b]] w (Ret w (.int .i64 (ordR a b))) := by
  unfold ordR
  by_cases h2 : a.t = 2
  · rw [if_pos h2]
    have k2 : (a.t == 2) = true := by simpa using h2
    by_cases ha : nanB a.b.toNat = true
    · rw [if_pos ha]; exact ord_nan1 a b w k2 h0 (Lib.hid ha)
    rw [if_neg ha]
    have ha := Bool.eq_false_iff.2 ha
    by_cases hb : nanB b.b.toNat = true
    · rw [if_pos hb]; exact ord_nan2 a b w k2 h0 h1 (Lib.hid ha) (Lib.hid hb)
    rw [if_neg hb]
    have hb := Bool.eq_false_iff.2 hb
    by_cases hl : FloatKind.f64.format.order a.b.toNat b.b.toNat = some .lt
    · rw [if_pos hl]; exact ord_flt a b w k2 h0 h1 (Lib.hid ha) (Lib.hid hb) (by rw [hl]; rfl)
    rw [if_neg hl]
    have hl : (FloatKind.f64.format.order a.b.toNat b.b.toNat == some .lt) = false := beq_eq_false_iff_ne.2 hl
    by_cases hg : FloatKind.f64.format.order a.b.toNat b.b.toNat = some .gt
    · rw [if_pos hg]; exact ord_fgt a b w k2 h0 h1 (Lib.hid ha) (Lib.hid hb) hl (by rw [hg]; rfl)
    rw [if_neg hg]
    exact ord_feq a b w k2 h0 h1 (Lib.hid ha) (Lib.hid hb) hl (beq_eq_false_iff_ne.2 hg)
  · rw [if_neg h2]
    have k2 : (a.t == 2) = false := by simpa using h2
    by_cases hl : a.n < b.n
    · rw [if_pos hl]; exact ord_ilt a b w k2 (decide_eq_true hl)
    rw [if_neg hl]
    by_cases hg : b.n < a.n
    · rw [if_pos hg]; exact ord_igt a b w k2 (decide_eq_false hl) (decide_eq_true hg)
    rw [if_neg hg]
    exact ord_ieq a b w k2 (decide_eq_false hl) (decide_eq_false hg)
end Go.Proofs.Ytdeabmijoaepcaa
