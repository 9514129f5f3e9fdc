/-
  The walks of package value's operators: comparisons.
-/
import Derived.Test.YtdeabmijoaepcaaVal2
namespace Go.Proofs.Ytdeabmijoaepcaa
open Go.RowKit Go.Stk

/-- What a comparison's sign picks; none: it is none. -/
def cmpV (l : List UInt8) (eq ne lt le gt ge : Bool) : Option Bool :=
  if l == [61, 61] then some eq else if l == [33, 61] then some ne else if l == [60] then some lt else if l == [60, 61] then some le else if l == [62] then some gt else if l == [62, 61] then some ge else none
def cmpRes : Option Bool → Value
  | some b => .tuple #[.agg #[.int .i64 3, .int .i64 (b2i b), .int .u64 0], .bool true]
  | none => .tuple #[.agg #[.int .i64 0, .int .i64 0, .int .u64 0], .bool false]
/-- The end of a way: what is returned is what the sign picks. -/
theorem cmp_end {w W : World} {v : Value} {o r : Option Bool} (ho : o = r) (hv : v = cmpRes r) (hb : Below w.heap.size w W) : Ret w (cmpRes o) (.returned v) W := ⟨by rw [ho, hv], hb⟩

theorem cmpInt_any (op : ByteArray) (x y : Int) (w : World) : Calls Try.prog 38 #[.string op, .int .i64 x, .int .i64 y] w (Ret w (cmpRes (cmpV op.toList (x == y) (x != y) (decide (x < y)) (decide (x ≤ y)) (decide (y < x)) (decide (y ≤ x))))) := by
  go_enter Try.func38, Try.ntmps38
  go_wp2_with fail
  · have E := Lib.hid (show cmpV op.toList (x == y) (x != y) (decide (x < y)) (decide (x ≤ y)) (decide (y < x)) (decide (y ≤ x)) = some (x == y) by simp [cmpV, *])
    refine (valBool_any _ _).mono ?_
    rintro e w1 ⟨rfl, hb⟩
    obtain ⟨c0, c1, c2, f0, f1, f2, hz⟩ := res3 hb
    replace hb := below_next (below_alloc (Below.refl w.heap.size w) _) hb
    go_wp2
    exact bodyPost_ret (v := .tuple #[.agg #[.int .i64 3, .int .i64 (b2i (x == y)), .int .u64 0], .bool true]) (by simp [results, Try.results38, go_sem, c0, c1, c2]) rfl (cmp_end E.out rfl (by repeat (first | exact hb | refine below_set ?_ _ _ | refine below_alloc ?_ _)))
  · have E := Lib.hid (show cmpV op.toList (x == y) (x != y) (decide (x < y)) (decide (x ≤ y)) (decide (y < x)) (decide (y ≤ x)) = some (x != y) by simp [cmpV, *])
    refine (valBool_any _ _).mono ?_
    rintro e w1 ⟨rfl, hb⟩
    obtain ⟨c0, c1, c2, f0, f1, f2, hz⟩ := res3 hb
    replace hb := below_next (below_alloc (Below.refl w.heap.size w) _) hb
    go_wp2
    exact bodyPost_ret (v := .tuple #[.agg #[.int .i64 3, .int .i64 (b2i (x != y)), .int .u64 0], .bool true]) (by simp [results, Try.results38, go_sem, c0, c1, c2]) rfl (cmp_end E.out rfl (by repeat (first | exact hb | refine below_set ?_ _ _ | refine below_alloc ?_ _)))
  · have E := Lib.hid (show cmpV op.toList (x == y) (x != y) (decide (x < y)) (decide (x ≤ y)) (decide (y < x)) (decide (y ≤ x)) = some (decide (x < y)) by simp [cmpV, *])
    refine (valBool_any _ _).mono ?_
    rintro e w1 ⟨rfl, hb⟩
    obtain ⟨c0, c1, c2, f0, f1, f2, hz⟩ := res3 hb
    replace hb := below_next (below_alloc (Below.refl w.heap.size w) _) hb
    go_wp2
    exact bodyPost_ret (v := .tuple #[.agg #[.int .i64 3, .int .i64 (b2i (decide (x < y))), .int .u64 0], .bool true]) (by simp [results, Try.results38, go_sem, c0, c1, c2]) rfl (cmp_end E.out rfl (by repeat (first | exact hb | refine below_set ?_ _ _ | refine below_alloc ?_ _)))
  · have E := Lib.hid (show cmpV op.toList (x == y) (x != y) (decide (x < y)) (decide (x ≤ y)) (decide (y < x)) (decide (y ≤ x)) = some (decide (x ≤ y)) by simp [cmpV, *])
    refine (valBool_any _ _).mono ?_
    rintro e w1 ⟨rfl, hb⟩
    obtain ⟨c0, c1, c2, f0, f1, f2, hz⟩ := res3 hb
    replace hb := below_next (below_alloc (Below.refl w.heap.size w) _) hb
    go_wp2
    exact bodyPost_ret (v := .tuple #[.agg #[.int .i64 3, .int .i64 (b2i (decide (x ≤ y))), .int .u64 0], .bool true]) (by simp [results, Try.results38, go_sem, c0, c1, c2]) rfl (cmp_end E.out rfl (by repeat (first | exact hb | refine below_set ?_ _ _ | refine below_alloc ?_ _)))
  · have E := Lib.hid (show cmpV op.toList (x == y) (x != y) (decide (x < y)) (decide (x ≤ y)) (decide (y < x)) (decide (y ≤ x)) = some (decide (y < x)) by simp [cmpV, *])
    refine (valBool_any _ _).mono ?_
    rintro e w1 ⟨rfl, hb⟩
    obtain ⟨c0, c1, c2, f0, f1, f2, hz⟩ := res3 hb
    replace hb := below_next (below_alloc (Below.refl w.heap.size w) _) hb
    go_wp2
    exact bodyPost_ret (v := .tuple #[.agg #[.int .i64 3, .int .i64 (b2i (decide (y < x))), .int .u64 0], .bool true]) (by simp [results, Try.results38, go_sem, c0, c1, c2]) rfl (cmp_end E.out rfl (by repeat (first | exact hb | refine below_set ?_ _ _ | refine below_alloc ?_ _)))
  · have E := Lib.hid (show cmpV op.toList (x == y) (x != y) (decide (x < y)) (decide (x ≤ y)) (decide (y < x)) (decide (y ≤ x)) = some (decide (y ≤ x)) by simp [cmpV, *])
    refine (valBool_any _ _).mono ?_
    rintro e w1 ⟨rfl, hb⟩
    obtain ⟨c0, c1, c2, f0, f1, f2, hz⟩ := res3 hb
    replace hb := below_next (below_alloc (Below.refl w.heap.size w) _) hb
    go_wp2
    exact bodyPost_ret (v := .tuple #[.agg #[.int .i64 3, .int .i64 (b2i (decide (y ≤ x))), .int .u64 0], .bool true]) (by simp [results, Try.results38, go_sem, c0, c1, c2]) rfl (cmp_end E.out rfl (by repeat (first | exact hb | refine below_set ?_ _ _ | refine below_alloc ?_ _)))
  · have E := Lib.hid (show cmpV op.toList (x == y) (x != y) (decide (x < y)) (decide (x ≤ y)) (decide (y < x)) (decide (y ≤ x)) = none by simp [cmpV, *])
    exact bodyPost_ret (v := .tuple #[.agg #[.int .i64 0, .int .i64 0, .int .u64 0], .bool false]) (by simp [results, Try.results38, go_sem]) rfl (cmp_end E.out rfl (by repeat (first | exact Below.refl _ _ | refine below_set ?_ _ _ | refine below_alloc ?_ _)))

theorem cmpFloat_any (op : ByteArray) (x y : Nat) (w : World) : Calls Try.prog 40 #[.string op, .float .f64 x, .float .f64 y] w (Ret w (cmpRes (cmpV op.toList (FloatKind.f64.format.order x y == some .eq) (FloatKind.f64.format.order x y != some .eq) (FloatKind.f64.format.order x y == some .lt) (FloatKind.f64.format.order x y == some .lt || FloatKind.f64.format.order x y == some .eq) (FloatKind.f64.format.order x y == some .gt) (FloatKind.f64.format.order x y == some .gt || FloatKind.f64.format.order x y == some .eq)))) := by
  go_enter Try.func40, Try.ntmps40
  go_wp2_with fail
  · have E := Lib.hid (show cmpV op.toList (FloatKind.f64.format.order x y == some .eq) (FloatKind.f64.format.order x y != some .eq) (FloatKind.f64.format.order x y == some .lt) (FloatKind.f64.format.order x y == some .lt || FloatKind.f64.format.order x y == some .eq) (FloatKind.f64.format.order x y == some .gt) (FloatKind.f64.format.order x y == some .gt || FloatKind.f64.format.order x y == some .eq) = some (FloatKind.f64.format.order x y == some .eq) by simp [cmpV, *])
    refine (valBool_any _ _).mono ?_
    rintro e w1 ⟨rfl, hb⟩
    obtain ⟨c0, c1, c2, f0, f1, f2, hz⟩ := res3 hb
    replace hb := below_next (below_alloc (Below.refl w.heap.size w) _) hb
    go_wp2
    exact bodyPost_ret (v := .tuple #[.agg #[.int .i64 3, .int .i64 (b2i (FloatKind.f64.format.order x y == some .eq)), .int .u64 0], .bool true]) (by simp [results, Try.results40, go_sem, c0, c1, c2]) rfl (cmp_end E.out rfl (by repeat (first | exact hb | refine below_set ?_ _ _ | refine below_alloc ?_ _)))
  · have E := Lib.hid (show cmpV op.toList (FloatKind.f64.format.order x y == some .eq) (FloatKind.f64.format.order x y != some .eq) (FloatKind.f64.format.order x y == some .lt) (FloatKind.f64.format.order x y == some .lt || FloatKind.f64.format.order x y == some .eq) (FloatKind.f64.format.order x y == some .gt) (FloatKind.f64.format.order x y == some .gt || FloatKind.f64.format.order x y == some .eq) = some (FloatKind.f64.format.order x y != some .eq) by simp [cmpV, *])
    refine (valBool_any _ _).mono ?_
    rintro e w1 ⟨rfl, hb⟩
    obtain ⟨c0, c1, c2, f0, f1, f2, hz⟩ := res3 hb
    replace hb := below_next (below_alloc (Below.refl w.heap.size w) _) hb
    go_wp2
    exact bodyPost_ret (v := .tuple #[.agg #[.int .i64 3, .int .i64 (b2i (FloatKind.f64.format.order x y != some .eq)), .int .u64 0], .bool true]) (by simp [results, Try.results40, go_sem, c0, c1, c2]) rfl (cmp_end E.out rfl (by repeat (first | exact hb | refine below_set ?_ _ _ | refine below_alloc ?_ _)))
  · have E := Lib.hid (show cmpV op.toList (FloatKind.f64.format.order x y == some .eq) (FloatKind.f64.format.order x y != some .eq) (FloatKind.f64.format.order x y == some .lt) (FloatKind.f64.format.order x y == some .lt || FloatKind.f64.format.order x y == some .eq) (FloatKind.f64.format.order x y == some .gt) (FloatKind.f64.format.order x y == some .gt || FloatKind.f64.format.order x y == some .eq) = some (FloatKind.f64.format.order x y == some .lt) by simp [cmpV, *])
    refine (valBool_any _ _).mono ?_
    rintro e w1 ⟨rfl, hb⟩
    obtain ⟨c0, c1, c2, f0, f1, f2, hz⟩ := res3 hb
    replace hb := below_next (below_alloc (Below.refl w.heap.size w) _) hb
    go_wp2
    exact bodyPost_ret (v := .tuple #[.agg #[.int .i64 3, .int .i64 (b2i (FloatKind.f64.format.order x y == some .lt)), .int .u64 0], .bool true]) (by simp [results, Try.results40, go_sem, c0, c1, c2]) rfl (cmp_end E.out rfl (by repeat (first | exact hb | refine below_set ?_ _ _ | refine below_alloc ?_ _)))
  · have E := Lib.hid (show cmpV op.toList (FloatKind.f64.format.order x y == some .eq) (FloatKind.f64.format.order x y != some .eq) (FloatKind.f64.format.order x y == some .lt) (FloatKind.f64.format.order x y == some .lt || FloatKind.f64.format.order x y == some .eq) (FloatKind.f64.format.order x y == some .gt) (FloatKind.f64.format.order x y == some .gt || FloatKind.f64.format.order x y == some .eq) = some (FloatKind.f64.format.order x y == some .lt || FloatKind.f64.format.order x y == some .eq) by simp [cmpV, *])
    refine (valBool_any _ _).mono ?_
    rintro e w1 ⟨rfl, hb⟩
    obtain ⟨c0, c1, c2, f0, f1, f2, hz⟩ := res3 hb
    replace hb := below_next (below_alloc (Below.refl w.heap.size w) _) hb
    go_wp2
    exact bodyPost_ret (v := .tuple #[.agg #[.int .i64 3, .int .i64 (b2i (FloatKind.f64.format.order x y == some .lt || FloatKind.f64.format.order x y == some .eq)), .int .u64 0], .bool true]) (by simp [results, Try.results40, go_sem, c0, c1, c2]) rfl (cmp_end E.out rfl (by repeat (first | exact hb | refine below_set ?_ _ _ | refine below_alloc ?_ _)))
  · have E := Lib.hid (show cmpV op.toList (FloatKind.f64.format.order x y == some .eq) (FloatKind.f64.format.order x y != some .eq) (FloatKind.f64.format.order x y == some .lt) (FloatKind.f64.format.order x y == some .lt || FloatKind.f64.format.order x y == some .eq) (FloatKind.f64.format.order x y == some .gt) (FloatKind.f64.format.order x y == some .gt || FloatKind.f64.format.order x y == some .eq) = some (FloatKind.f64.format.order x y == some .gt) by simp [cmpV, *])
    refine (valBool_any _ _).mono ?_
    rintro e w1 ⟨rfl, hb⟩
    obtain ⟨c0, c1, c2, f0, f1, f2, hz⟩ := res3 hb
    replace hb := below_next (below_alloc (Below.refl w.heap.size w) _) hb
    go_wp2
    exact bodyPost_ret (v := .tuple #[.agg #[.int .i64 3, .int .i64 (b2i (FloatKind.f64.format.order x y == some .gt)), .int .u64 0], .bool true]) (by simp [results, Try.results40, go_sem, c0, c1, c2]) rfl (cmp_end E.out rfl (by repeat (first | exact hb | refine below_set ?_ _ _ | refine below_alloc ?_ _)))
  · have E := Lib.hid (show cmpV op.toList (FloatKind.f64.format.order x y == some .eq) (FloatKind.f64.format.order x y != some .eq) (FloatKind.f64.format.order x y == some .lt) (FloatKind.f64.format.order x y == some .lt || FloatKind.f64.format.order x y == some .eq) (FloatKind.f64.format.order x y == some .gt) (FloatKind.f64.format.order x y == some .gt || FloatKind.f64.format.order x y == some .eq) = some (FloatKind.f64.format.order x y == some .gt || FloatKind.f64.format.order x y == some .eq) by simp [cmpV, *])
    refine (valBool_any _ _).mono ?_
    rintro e w1 ⟨rfl, hb⟩
    obtain ⟨c0, c1, c2, f0, f1, f2, hz⟩ := res3 hb
    replace hb := below_next (below_alloc (Below.refl w.heap.size w) _) hb
    go_wp2
    exact bodyPost_ret (v := .tuple #[.agg #[.int .i64 3, .int .i64 (b2i (FloatKind.f64.format.order x y == some .gt || FloatKind.f64.format.order x y == some .eq)), .int .u64 0], .bool true]) (by simp [results, Try.results40, go_sem, c0, c1, c2]) rfl (cmp_end E.out rfl (by repeat (first | exact hb | refine below_set ?_ _ _ | refine below_alloc ?_ _)))
  · have E := Lib.hid (show cmpV op.toList (FloatKind.f64.format.order x y == some .eq) (FloatKind.f64.format.order x y != some .eq) (FloatKind.f64.format.order x y == some .lt) (FloatKind.f64.format.order x y == some .lt || FloatKind.f64.format.order x y == some .eq) (FloatKind.f64.format.order x y == some .gt) (FloatKind.f64.format.order x y == some .gt || FloatKind.f64.format.order x y == some .eq) = none by simp [cmpV, *])
    exact bodyPost_ret (v := .tuple #[.agg #[.int .i64 0, .int .i64 0, .int .u64 0], .bool false]) (by simp [results, Try.results40, go_sem]) rfl (cmp_end E.out rfl (by repeat (first | exact Below.refl _ _ | refine below_set ?_ _ _ | refine below_alloc ?_ _)))

end Go.Proofs.Ytdeabmijoaepcaa
