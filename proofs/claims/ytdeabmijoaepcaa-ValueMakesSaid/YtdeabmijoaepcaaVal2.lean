/-
  The walks of package value's small functions, part two: bools, floats.
-/
import Derived.Test.YtdeabmijoaepcaaVal
namespace Go.Proofs.Ytdeabmijoaepcaa
open Go.RowKit Go.Stk

theorem fromBits_ext : ∀ (args : Array Value) (w : World), (callFunc 18 args).run Try.prog w = ((Extern.MathFloatBits.float64frombits args).run Try.prog w).andThen fun v w' => .ok (.value v) w' :=
  @run_callFunc_extern Try.prog 18 _ Extern.MathFloatBits.float64frombits Try.func18 (by kernel_rfl) (by kernel_rfl) (by kernel_rfl) (by kernel_rfl)
theorem toBits_ext : ∀ (args : Array Value) (w : World), (callFunc 29 args).run Try.prog w = ((Extern.MathFloatBits.float64bits args).run Try.prog w).andThen fun v w' => .ok (.value v) w' :=
  @run_callFunc_extern Try.prog 29 _ Extern.MathFloatBits.float64bits Try.func29 (by kernel_rfl) (by kernel_rfl) (by kernel_rfl) (by kernel_rfl)
theorem run_fromBits (n : Int) (w : World) : (Extern.MathFloatBits.float64frombits #[.int .u64 n]).run Try.prog w = .ok (.float .f64 n.toNat) w := rfl
theorem run_toBits (b : Nat) (w : World) : (Extern.MathFloatBits.float64bits #[.float .f64 b]).run Try.prog w = .ok (.int .u64 b) w := rfl

theorem valBool_any (b : Bool) (w : World) : Calls Try.prog 22 #[.bool b] w (Ret w (.agg #[.int .i64 3, .int .i64 (b2i b), .int .u64 0])) := by
  cases b
  all_goals
    go_enter Try.func22, Try.ntmps22
    go_wp2_with fail
    refine (valZero_any 3 _).mono ?_
    rintro e w1 ⟨rfl, hb⟩
    obtain ⟨c0, c1, c2, f0, f1, f2, hz⟩ := res3 hb
    replace hb := below_next (below_alloc (Below.refl w.heap.size w) _) hb
    rw [show (zeroOf 3).agg = .agg #[.int .i64 3, .int .i64 0, .int .u64 0] from rfl]
    go_wp2
  · exact bodyPost_ret (v := .agg #[.int .i64 3, .int .i64 0, .int .u64 0]) (by simp [results, Try.results22, go_sem, c0, c1, c2, hz]) rfl ⟨rfl, by repeat (first | exact hb | refine below_set ?_ _ _ | refine below_alloc ?_ _)⟩
  · exact bodyPost_ret (v := .agg #[.int .i64 3, .int .i64 1, .int .u64 0]) (by simp [results, Try.results22, go_sem, c0, c1, c2, hz]) rfl ⟨rfl, by repeat (first | exact hb | refine below_set ?_ _ _ | refine below_alloc ?_ _)⟩

theorem valTrue_any (t n b : Int) (w : World) : Calls Try.prog 20 #[.agg #[.int .i64 t, .int .i64 n, .int .u64 b]] w (Ret w (.bool (t == 3 && n == 1))) := by
  by_cases h : t = 3
  · subst h
    go_enter Try.func20, Try.ntmps20
    go_wp2
    go_ret
    exact ⟨rfl, (Below.refl _ _).alloc (Nat.le_refl _) _⟩
  · have h2 : (t == 3) = false := by simpa using h
    have e : Ret w (.bool (t == 3 && n == 1)) = Ret w (.bool false) := by rw [h2]; rfl
    rw [e]
    clear e
    go_enter Try.func20, Try.ntmps20
    go_wp2
    go_ret
    exact ⟨rfl, (Below.refl _ _).alloc (Nat.le_refl _) _⟩

theorem flt_any (t n b : Int) (w : World) : Calls Try.prog 32 #[.agg #[.int .i64 t, .int .i64 n, .int .u64 b]] w (Ret w (.float .f64 b.toNat)) := by
  have h1 := fromBits_ext
  have h2 := run_fromBits
  go_enter Try.func32, Try.ntmps32
  go_wp2
  go_ret
  exact ⟨rfl, (Below.refl _ _).alloc (Nat.le_refl _) _⟩
theorem isNaN_any (b : Nat) (w : World) : Calls Try.prog 44 #[.float .f64 b] w (fun e w' => e = .returned (.bool (Ieee.double.order b b != some .eq)) ∧ w = w') := by
  go_enter Try.func44, Try.ntmps44
  go_wp2
  go_ret
  exact ⟨rfl, rfl⟩
theorem valFloat_any (b : Nat) (w : World) : Calls Try.prog 28 #[.float .f64 b] w (Ret w (.agg #[.int .i64 2, .int .i64 0, .int .u64 b])) := by
  have h1 := toBits_ext
  have h2 := run_toBits
  go_enter Try.func28, Try.ntmps28
  go_wp2
  exact bodyPost_ret (v := .agg #[.int .i64 2, .int .i64 0, .int .u64 b]) (by simp [results, Try.results28, go_sem]) rfl ⟨rfl, by repeat (first | exact Below.refl _ _ | refine below_set ?_ _ _ | refine below_alloc ?_ _)⟩

/-- A float's NaN. -/
def nanB (b : Nat) : Bool := Ieee.double.order b b != some .eq
/-- The bits of a float that comes of an operation. -/
def cameB (b : Nat) : Nat := if nanB b then 9221120237041090561 else b
theorem came_any (b : Nat) (w : World) : Calls Try.prog 30 #[.float .f64 b] w (Ret w (.agg #[.int .i64 2, .int .i64 0, .int .u64 (cameB b : Nat)])) := by
  cases hn : nanB b
  · have e : (cameB b : Nat) = b := by simp [cameB, hn]
    rw [e]
    clear e
    go_enter Try.func30, Try.ntmps30
    go_wp2_with fail
    have hj := isNaN_any b (w.alloc (.cells #[.int .i64 0, .int .i64 0, .int .u64 0] 24))
    rw [show (Ieee.double.order b b != some .eq) = false from hn] at hj
    refine hj.mono ?_
    rintro e w' ⟨rfl, rfl⟩
    clear hj
    go_wp2_with fail
    refine (valFloat_any b _).mono ?_
    rintro e w1 ⟨rfl, hb⟩
    obtain ⟨c0, c1, c2, f0, f1, f2, hz⟩ := res3 hb
    replace hb := below_next (below_alloc (Below.refl w.heap.size w) _) hb
    go_wp2
    exact bodyPost_ret (v := .agg #[.int .i64 2, .int .i64 0, .int .u64 b]) (by simp [results, Try.results30, go_sem, c0, c1, c2]) rfl ⟨rfl, by repeat (first | exact hb | refine below_set ?_ _ _ | refine below_alloc ?_ _)⟩
  · have e : ((cameB b : Nat) : Int) = 9221120237041090561 := by simp [cameB, hn]
    rw [e]
    clear e
    go_enter Try.func30, Try.ntmps30
    go_wp2_with fail
    have hj := isNaN_any b (w.alloc (.cells #[.int .i64 0, .int .i64 0, .int .u64 0] 24))
    rw [show (Ieee.double.order b b != some .eq) = true from hn] at hj
    refine hj.mono ?_
    rintro e w' ⟨rfl, rfl⟩
    clear hj
    go_wp2
    exact bodyPost_ret (v := .agg #[.int .i64 2, .int .i64 0, .int .u64 9221120237041090561]) (by simp [results, Try.results30, go_sem]) rfl ⟨rfl, by repeat (first | exact Below.refl _ _ | refine below_set ?_ _ _ | refine below_alloc ?_ _)⟩
end Go.Proofs.Ytdeabmijoaepcaa
