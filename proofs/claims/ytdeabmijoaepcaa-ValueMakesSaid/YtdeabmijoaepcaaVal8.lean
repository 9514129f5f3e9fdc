/-
  The walks of package value's toInt and math.Copysign.
-/
import Derived.Test.YtdeabmijoaepcaaVal5
import Derived.Laws.FloatArith
namespace Go.Proofs.Ytdeabmijoaepcaa
open Go.RowKit Go.Stk

theorem copysign_neg (w : World) : Calls Try.prog 31 #[.float .f64 4607182418800017408, .float .f64 13830554455654793216] w (fun e w' => e = .returned (.float .f64 13830554455654793216) ∧ w = w') := by
  have h1 := fromBits_ext
  have h2 := run_fromBits
  have h3 := toBits_ext
  have h4 := run_toBits
  go_enter Try.func31, Try.ntmps31
  go_wp2
  go_ret
  exact ⟨rfl, rfl⟩

/-- What an int is made of a float: none if it does not fit. -/
def toIntR (b : Nat) : Value :=
  if nanB b then badR 3 else if FloatKind.f64.format.order b 4890909195324358656 == some .gt || FloatKind.f64.format.order b 4890909195324358656 == some .eq then badR 3
  else if FloatKind.f64.format.order b 14114281232179134464 == some .lt then badR 3 else okR (intA ((floatToIntVal .f64 b .i64).getD 0))
theorem toInt_nan (b : Nat) (w : World) (h : nanB b = true) : Calls Try.prog 33 #[.float .f64 b] w (Ret w (badR 3)) := by
  go_enter Try.func33, Try.ntmps33
  go_wp2_with fail
  have hj := isNaN_any b (w.alloc (.cells #[.int .i64 0, .int .i64 0, .int .u64 0] 24))
  rw [show (Ieee.double.order b b != some .eq) = true from h] at hj
  refine hj.mono ?_
  rintro e w' ⟨rfl, rfl⟩
  clear hj
  go_wp2
  exact bodyPost_ret (v := .tuple #[.agg #[.int .i64 0, .int .i64 0, .int .u64 0], .int .i64 3]) (by simp [results, Try.results33, go_sem]) rfl ⟨rfl, by repeat (first | exact Below.refl _ _ | refine below_set ?_ _ _ | refine below_alloc ?_ _)⟩
theorem toInt_high (b : Nat) (w : World) (h : nanB b = false) (h1 : (FloatKind.f64.format.order b 4890909195324358656 == some .gt || FloatKind.f64.format.order b 4890909195324358656 == some .eq) = true) : Calls Try.prog 33 #[.float .f64 b] w (Ret w (badR 3)) := by
  go_enter Try.func33, Try.ntmps33
  go_wp2_with fail
  have hj := isNaN_any b (w.alloc (.cells #[.int .i64 0, .int .i64 0, .int .u64 0] 24))
  rw [show (Ieee.double.order b b != some .eq) = false from h] at hj
  refine hj.mono ?_
  rintro e w' ⟨rfl, rfl⟩
  clear hj
  go_wp2
  exact bodyPost_ret (v := .tuple #[.agg #[.int .i64 0, .int .i64 0, .int .u64 0], .int .i64 3]) (by simp [results, Try.results33, go_sem]) rfl ⟨rfl, by repeat (first | exact Below.refl _ _ | refine below_set ?_ _ _ | refine below_alloc ?_ _)⟩
theorem toInt_low (b : Nat) (w : World) (h : nanB b = false) (h1 : (FloatKind.f64.format.order b 4890909195324358656 == some .gt || FloatKind.f64.format.order b 4890909195324358656 == some .eq) = false) (h2 : (FloatKind.f64.format.order b 14114281232179134464 == some .lt) = true) : Calls Try.prog 33 #[.float .f64 b] w (Ret w (badR 3)) := by
  go_enter Try.func33, Try.ntmps33
  go_wp2_with fail
  have hj := isNaN_any b (w.alloc (.cells #[.int .i64 0, .int .i64 0, .int .u64 0] 24))
  rw [show (Ieee.double.order b b != some .eq) = false from h] at hj
  refine hj.mono ?_
  rintro e w' ⟨rfl, rfl⟩
  clear hj
  go_wp2
  exact bodyPost_ret (v := .tuple #[.agg #[.int .i64 0, .int .i64 0, .int .u64 0], .int .i64 3]) (by simp [results, Try.results33, go_sem]) rfl ⟨rfl, by repeat (first | exact Below.refl _ _ | refine below_set ?_ _ _ | refine below_alloc ?_ _)⟩
theorem toInt_ok (b : Nat) (n : Int) (w : World) (h : nanB b = false) (h1 : (FloatKind.f64.format.order b 4890909195324358656 == some .gt || FloatKind.f64.format.order b 4890909195324358656 == some .eq) = false) (h2 : (FloatKind.f64.format.order b 14114281232179134464 == some .lt) = false)
    (hn : floatToIntVal .f64 b .i64 = some n) : Calls Try.prog 33 #[.float .f64 b] w (Ret w (okR (intA n))) := by
  have hc := fun w => run_convert_float_int (P := Try.prog) w 34 3 .f64 .i64 b n (by kernel_rfl) (by kernel_rfl) hn
  clear hn
  go_enter Try.func33, Try.ntmps33
  go_wp2_with fail
  have hj := isNaN_any b (w.alloc (.cells #[.int .i64 0, .int .i64 0, .int .u64 0] 24))
  rw [show (Ieee.double.order b b != some .eq) = false from h] at hj
  refine hj.mono ?_
  rintro e w' ⟨rfl, rfl⟩
  clear hj
  go_wp2_with fail
  refine (valInt_any _ _).mono ?_
  rintro e w1 ⟨rfl, hb⟩
  obtain ⟨c0, c1, c2, f0, f1, f2, hz⟩ := res3 hb
  replace hb := below_next (below_alloc (Below.refl w.heap.size w) _) hb
  go_wp2
  exact bodyPost_ret (v := .tuple #[.agg #[.int .i64 1, .int .i64 n, .int .u64 0], .int .i64 0]) (by simp [results, Try.results33, go_sem, c0, c1, c2]) rfl ⟨rfl, by repeat (first | exact hb | exact Below.refl _ _ | refine below_set ?_ _ _ | refine below_alloc ?_ _)⟩
end Go.Proofs.Ytdeabmijoaepcaa
