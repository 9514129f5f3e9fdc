/-
  The walk of package value's Unary: all but two floats' ways.
-/
import Derived.Test.YtdeabmijoaepcaaVal7
import Derived.Test.YtdeabmijoaepcaaVal8
namespace Go.Proofs.Ytdeabmijoaepcaa
open Go.RowKit Go.Stk

/-- A box and a result's cells, just laid, seen later on. -/
structure Box1 (B : Nat) (a : Val) (w : World) : Prop where
  a0 : w.cell? ⟨B, 0, none⟩ = some (.int .i64 a.t)
  a1 : w.cell? ⟨B, 1, none⟩ = some (.int .i64 a.n)
  a2 : w.cell? ⟨B, 2, none⟩ = some (.int .u64 a.b)
  r0 : w.cell? ⟨B + 1, 0, none⟩ = some (.int .i64 0)
  r1 : w.cell? ⟨B + 1, 1, none⟩ = some (.int .i64 0)
  r2 : w.cell? ⟨B + 1, 2, none⟩ = some (.int .u64 0)
  f0 : w.frozen? ⟨B + 1, 0, none⟩ = false
  f1 : w.frozen? ⟨B + 1, 1, none⟩ = false
  f2 : w.frozen? ⟨B + 1, 2, none⟩ = false
  sz : B + 1 < w.heap.size
  s0 : B < w.heap.size
theorem Box1.later {B : Nat} {a : Val} {w w1 : World} (h : Box1 B a w) (hb : Below w.heap.size w w1) : Box1 B a w1 := by
  have hs := h.sz
  have h2 := hb.size
  exact ⟨cell_later hb h.a0, cell_later hb h.a1, cell_later hb h.a2, cell_later hb h.r0, cell_later hb h.r1, cell_later hb h.r2,
    (hb.frozen (p := ⟨B + 1, 0, none⟩) hs).trans h.f0, (hb.frozen (p := ⟨B + 1, 1, none⟩) hs).trans h.f1, (hb.frozen (p := ⟨B + 1, 2, none⟩) hs).trans h.f2, by omega, by omega⟩
theorem box1_new (w : World) (a : Val) (T : TypeId) : Box1 w.heap.size a ((w.alloc (.cells #[.int .i64 a.t, .int .i64 a.n, .int .u64 a.b] T)).alloc (.cells #[.int .i64 0, .int .i64 0, .int .u64 0] T)) := by
  have h0 : ((w.alloc (.cells #[.int .i64 a.t, .int .i64 a.n, .int .u64 a.b] T)).alloc (.cells #[.int .i64 0, .int .i64 0, .int .u64 0] T)).heap[w.heap.size]? = some (.cells #[.int .i64 a.t, .int .i64 a.n, .int .u64 a.b] T (0, 0)) := by
    show ((w.heap.push _).push _)[w.heap.size]? = _
    simp only [Array.getElem?_push, Array.size_push]; rw [if_neg (by omega), if_pos trivial]
  have h2 : ((w.alloc (.cells #[.int .i64 a.t, .int .i64 a.n, .int .u64 a.b] T)).alloc (.cells #[.int .i64 0, .int .i64 0, .int .u64 0] T)).heap[w.heap.size + 1]? = some (.cells #[.int .i64 0, .int .i64 0, .int .u64 0] T (0, 0)) := by
    show ((w.heap.push _).push _)[w.heap.size + 1]? = _
    simp only [Array.getElem?_push, Array.size_push]; rw [if_pos trivial]
  constructor
  all_goals first
    | simp only [World.cell?, h0]; rfl
    | simp only [World.cell?, h2]; rfl
    | simp only [World.frozen?, h2]; rfl
    | (simp; done)
    | (simp; omega)

theorem un_bad (op : ByteArray) (a : Val) (w : World) (h : a.good = false) : Calls Try.prog 13 #[.string op, .agg #[.int .i64 a.t, .int .i64 a.n, .int .u64 a.b]] w (Ret w (badR (-1))) := by
  have HA := Lib.hid h
  clear h
  go_enter Try.func13, Try.ntmps13
  go_wp2_with fail
  have hj := valGood_any a.t a.n a.b ((w.alloc (.cells #[.int .i64 a.t, .int .i64 a.n, .int .u64 a.b] 24)).alloc (.cells #[.int .i64 0, .int .i64 0, .int .u64 0] 24))
  rw [show (Val.mk a.t a.n a.b).good = false from HA.out] at hj
  refine hj.mono ?_
  rintro e w1 ⟨rfl, hb⟩
  clear hj
  have hx := (box1_new w a 24).later hb
  replace hb := below_next (below_alloc (below_alloc (Below.refl w.heap.size w) _) _) hb
  obtain ⟨a0, a1, a2, r0, r1, r2, f0, f1, f2, sz, s0⟩ := hx
  go_wp2
  exact bodyPost_ret (v := .tuple #[.agg #[.int .i64 0, .int .i64 0, .int .u64 0], .int .i64 (-1)]) (by simp [results, Try.results13, go_sem, r0, r1, r2]) rfl ⟨rfl, by repeat (first | exact hb | exact Below.refl _ _ | refine below_setB ?_ (by omega) _ _ | refine below_alloc ?_ _)⟩

theorem un_minus_none (op : ByteArray) (a : Val) (w : World) (h : a.good = true) (ho : op.toList = [45]) (h1 : (a.t == 1) = false) (h2 : (a.t == 2) = false) : Calls Try.prog 13 #[.string op, .agg #[.int .i64 a.t, .int .i64 a.n, .int .u64 a.b]] w (Ret w (badR (-1))) := by
  have HA := Lib.hid h
  clear h
  go_enter Try.func13, Try.ntmps13
  go_wp2_with fail
  have hj := valGood_any a.t a.n a.b ((w.alloc (.cells #[.int .i64 a.t, .int .i64 a.n, .int .u64 a.b] 24)).alloc (.cells #[.int .i64 0, .int .i64 0, .int .u64 0] 24))
  rw [show (Val.mk a.t a.n a.b).good = true from HA.out] at hj
  refine hj.mono ?_
  rintro e w1 ⟨rfl, hb⟩
  clear hj
  have hx := (box1_new w a 24).later hb
  replace hb := below_next (below_alloc (below_alloc (Below.refl w.heap.size w) _) _) hb
  obtain ⟨a0, a1, a2, r0, r1, r2, f0, f1, f2, sz, s0⟩ := hx
  go_wp2
  exact bodyPost_ret (v := .tuple #[.agg #[.int .i64 0, .int .i64 0, .int .u64 0], .int .i64 (-1)]) (by simp [results, Try.results13, go_sem, r0, r1, r2]) rfl ⟨rfl, by repeat (first | exact hb | exact Below.refl _ _ | refine below_setB ?_ (by omega) _ _ | refine below_alloc ?_ _)⟩

theorem un_not_none (op : ByteArray) (a : Val) (w : World) (h : a.good = true) (ho : op.toList = [33]) (h1 : (a.t == 3) = false) : Calls Try.prog 13 #[.string op, .agg #[.int .i64 a.t, .int .i64 a.n, .int .u64 a.b]] w (Ret w (badR (-1))) := by
  have HA := Lib.hid h
  clear h
  go_enter Try.func13, Try.ntmps13
  go_wp2_with fail
  have hj := valGood_any a.t a.n a.b ((w.alloc (.cells #[.int .i64 a.t, .int .i64 a.n, .int .u64 a.b] 24)).alloc (.cells #[.int .i64 0, .int .i64 0, .int .u64 0] 24))
  rw [show (Val.mk a.t a.n a.b).good = true from HA.out] at hj
  refine hj.mono ?_
  rintro e w1 ⟨rfl, hb⟩
  clear hj
  have hx := (box1_new w a 24).later hb
  replace hb := below_next (below_alloc (below_alloc (Below.refl w.heap.size w) _) _) hb
  obtain ⟨a0, a1, a2, r0, r1, r2, f0, f1, f2, sz, s0⟩ := hx
  go_wp2
  exact bodyPost_ret (v := .tuple #[.agg #[.int .i64 0, .int .i64 0, .int .u64 0], .int .i64 (-1)]) (by simp [results, Try.results13, go_sem, r0, r1, r2]) rfl ⟨rfl, by repeat (first | exact hb | exact Below.refl _ _ | refine below_setB ?_ (by omega) _ _ | refine below_alloc ?_ _)⟩

theorem un_int_none (op : ByteArray) (a : Val) (w : World) (h : a.good = true) (ho : op.toList = [105, 110, 116]) (h1 : (a.t == 2) = false) : Calls Try.prog 13 #[.string op, .agg #[.int .i64 a.t, .int .i64 a.n, .int .u64 a.b]] w (Ret w (badR (-1))) := by
  have HA := Lib.hid h
  clear h
  go_enter Try.func13, Try.ntmps13
  go_wp2_with fail
  have hj := valGood_any a.t a.n a.b ((w.alloc (.cells #[.int .i64 a.t, .int .i64 a.n, .int .u64 a.b] 24)).alloc (.cells #[.int .i64 0, .int .i64 0, .int .u64 0] 24))
  rw [show (Val.mk a.t a.n a.b).good = true from HA.out] at hj
  refine hj.mono ?_
  rintro e w1 ⟨rfl, hb⟩
  clear hj
  have hx := (box1_new w a 24).later hb
  replace hb := below_next (below_alloc (below_alloc (Below.refl w.heap.size w) _) _) hb
  obtain ⟨a0, a1, a2, r0, r1, r2, f0, f1, f2, sz, s0⟩ := hx
  go_wp2
  exact bodyPost_ret (v := .tuple #[.agg #[.int .i64 0, .int .i64 0, .int .u64 0], .int .i64 (-1)]) (by simp [results, Try.results13, go_sem, r0, r1, r2]) rfl ⟨rfl, by repeat (first | exact hb | exact Below.refl _ _ | refine below_setB ?_ (by omega) _ _ | refine below_alloc ?_ _)⟩

theorem un_float_none (op : ByteArray) (a : Val) (w : World) (h : a.good = true) (ho : op.toList = [102, 108, 111, 97, 116]) (h1 : (a.t == 1) = false) : Calls Try.prog 13 #[.string op, .agg #[.int .i64 a.t, .int .i64 a.n, .int .u64 a.b]] w (Ret w (badR (-1))) := by
  have HA := Lib.hid h
  clear h
  go_enter Try.func13, Try.ntmps13
  go_wp2_with fail
  have hj := valGood_any a.t a.n a.b ((w.alloc (.cells #[.int .i64 a.t, .int .i64 a.n, .int .u64 a.b] 24)).alloc (.cells #[.int .i64 0, .int .i64 0, .int .u64 0] 24))
  rw [show (Val.mk a.t a.n a.b).good = true from HA.out] at hj
  refine hj.mono ?_
  rintro e w1 ⟨rfl, hb⟩
  clear hj
  have hx := (box1_new w a 24).later hb
  replace hb := below_next (below_alloc (below_alloc (Below.refl w.heap.size w) _) _) hb
  obtain ⟨a0, a1, a2, r0, r1, r2, f0, f1, f2, sz, s0⟩ := hx
  go_wp2
  exact bodyPost_ret (v := .tuple #[.agg #[.int .i64 0, .int .i64 0, .int .u64 0], .int .i64 (-1)]) (by simp [results, Try.results13, go_sem, r0, r1, r2]) rfl ⟨rfl, by repeat (first | exact hb | exact Below.refl _ _ | refine below_setB ?_ (by omega) _ _ | refine below_alloc ?_ _)⟩

theorem un_none (op : ByteArray) (a : Val) (w : World) (h : a.good = true) (h1 : (op.toList == [45]) = false) (h2 : (op.toList == [33]) = false) (h3 : (op.toList == [105, 110, 116]) = false) (h4 : (op.toList == [102, 108, 111, 97, 116]) = false) : Calls Try.prog 13 #[.string op, .agg #[.int .i64 a.t, .int .i64 a.n, .int .u64 a.b]] w (Ret w (badR (-1))) := by
  have HA := Lib.hid h
  clear h
  go_enter Try.func13, Try.ntmps13
  go_wp2_with fail
  have hj := valGood_any a.t a.n a.b ((w.alloc (.cells #[.int .i64 a.t, .int .i64 a.n, .int .u64 a.b] 24)).alloc (.cells #[.int .i64 0, .int .i64 0, .int .u64 0] 24))
  rw [show (Val.mk a.t a.n a.b).good = true from HA.out] at hj
  refine hj.mono ?_
  rintro e w1 ⟨rfl, hb⟩
  clear hj
  have hx := (box1_new w a 24).later hb
  replace hb := below_next (below_alloc (below_alloc (Below.refl w.heap.size w) _) _) hb
  obtain ⟨a0, a1, a2, r0, r1, r2, f0, f1, f2, sz, s0⟩ := hx
  go_wp2
  exact bodyPost_ret (v := .tuple #[.agg #[.int .i64 0, .int .i64 0, .int .u64 0], .int .i64 (-1)]) (by simp [results, Try.results13, go_sem, r0, r1, r2]) rfl ⟨rfl, by repeat (first | exact hb | exact Below.refl _ _ | refine below_setB ?_ (by omega) _ _ | refine below_alloc ?_ _)⟩

theorem un_minus_int (op : ByteArray) (a : Val) (w : World) (h : a.good = true) (ho : op.toList = [45]) (h1 : (a.t == 1) = true) : Calls Try.prog 13 #[.string op, .agg #[.int .i64 a.t, .int .i64 a.n, .int .u64 a.b]] w (Ret w (okR (intA (wrap64 (-a.n))))) := by
  have HA := Lib.hid h
  clear h
  go_enter Try.func13, Try.ntmps13
  go_wp2_with fail
  have hj := valGood_any a.t a.n a.b ((w.alloc (.cells #[.int .i64 a.t, .int .i64 a.n, .int .u64 a.b] 24)).alloc (.cells #[.int .i64 0, .int .i64 0, .int .u64 0] 24))
  rw [show (Val.mk a.t a.n a.b).good = true from HA.out] at hj
  refine hj.mono ?_
  rintro e w1 ⟨rfl, hb⟩
  clear hj
  have hx := (box1_new w a 24).later hb
  replace hb := below_next (below_alloc (below_alloc (Below.refl w.heap.size w) _) _) hb
  obtain ⟨a0, a1, a2, r0, r1, r2, f0, f1, f2, sz, s0⟩ := hx
  go_wp2_with fail
  have hx : Box1 w.heap.size a w1 := ⟨a0, a1, a2, r0, r1, r2, f0, f1, f2, sz, s0⟩
  refine (valInt_any _ _).mono ?_
  rintro e w2 ⟨rfl, hbx⟩
  clear a0 a1 a2 r0 r1 r2 f0 f1 f2 sz s0
  obtain ⟨a0, a1, a2, r0, r1, r2, f0, f1, f2, sz, s0⟩ := hx.later hbx
  replace hb := below_next hb hbx
  clear hbx hx
  go_wp2
  exact bodyPost_ret (v := .tuple #[.agg #[.int .i64 1, .int .i64 (wrap64 (-a.n)), .int .u64 0], .int .i64 0]) (by simp [results, Try.results13, go_sem, r0, r1, r2]) rfl ⟨rfl, by repeat (first | exact hb | exact Below.refl _ _ | refine below_setB ?_ (by omega) _ _ | refine below_alloc ?_ _)⟩

theorem un_not_bool (op : ByteArray) (a : Val) (w : World) (h : a.good = true) (ho : op.toList = [33]) (h1 : (a.t == 3) = true) : Calls Try.prog 13 #[.string op, .agg #[.int .i64 a.t, .int .i64 a.n, .int .u64 a.b]] w (Ret w (okR (boolA (a.n == 0)))) := by
  have HA := Lib.hid h
  clear h
  go_enter Try.func13, Try.ntmps13
  go_wp2_with fail
  have hj := valGood_any a.t a.n a.b ((w.alloc (.cells #[.int .i64 a.t, .int .i64 a.n, .int .u64 a.b] 24)).alloc (.cells #[.int .i64 0, .int .i64 0, .int .u64 0] 24))
  rw [show (Val.mk a.t a.n a.b).good = true from HA.out] at hj
  refine hj.mono ?_
  rintro e w1 ⟨rfl, hb⟩
  clear hj
  have hx := (box1_new w a 24).later hb
  replace hb := below_next (below_alloc (below_alloc (Below.refl w.heap.size w) _) _) hb
  obtain ⟨a0, a1, a2, r0, r1, r2, f0, f1, f2, sz, s0⟩ := hx
  go_wp2_with fail
  have hx : Box1 w.heap.size a w1 := ⟨a0, a1, a2, r0, r1, r2, f0, f1, f2, sz, s0⟩
  refine (valBool_any _ _).mono ?_
  rintro e w2 ⟨rfl, hbx⟩
  clear a0 a1 a2 r0 r1 r2 f0 f1 f2 sz s0
  obtain ⟨a0, a1, a2, r0, r1, r2, f0, f1, f2, sz, s0⟩ := hx.later hbx
  replace hb := below_next hb hbx
  clear hbx hx
  go_wp2
  exact bodyPost_ret (v := .tuple #[.agg #[.int .i64 3, .int .i64 (b2i (a.n == 0)), .int .u64 0], .int .i64 0]) (by simp [results, Try.results13, go_sem, r0, r1, r2]) rfl ⟨rfl, by repeat (first | exact hb | exact Below.refl _ _ | refine below_setB ?_ (by omega) _ _ | refine below_alloc ?_ _)⟩

theorem un_float_int (op : ByteArray) (a : Val) (w : World) (h : a.good = true) (ho : op.toList = [102, 108, 111, 97, 116]) (h1 : (a.t == 1) = true) : Calls Try.prog 13 #[.string op, .agg #[.int .i64 a.t, .int .i64 a.n, .int .u64 a.b]] w (Ret w (okR (fltV (floatOfInt .f64 a.n)))) := by
  have HA := Lib.hid h
  clear h
  go_enter Try.func13, Try.ntmps13
  go_wp2_with fail
  have hj := valGood_any a.t a.n a.b ((w.alloc (.cells #[.int .i64 a.t, .int .i64 a.n, .int .u64 a.b] 24)).alloc (.cells #[.int .i64 0, .int .i64 0, .int .u64 0] 24))
  rw [show (Val.mk a.t a.n a.b).good = true from HA.out] at hj
  refine hj.mono ?_
  rintro e w1 ⟨rfl, hb⟩
  clear hj
  have hx := (box1_new w a 24).later hb
  replace hb := below_next (below_alloc (below_alloc (Below.refl w.heap.size w) _) _) hb
  obtain ⟨a0, a1, a2, r0, r1, r2, f0, f1, f2, sz, s0⟩ := hx
  go_wp2_with fail
  have hx : Box1 w.heap.size a w1 := ⟨a0, a1, a2, r0, r1, r2, f0, f1, f2, sz, s0⟩
  refine (valFloat_any _ _).mono ?_
  rintro e w2 ⟨rfl, hbx⟩
  clear a0 a1 a2 r0 r1 r2 f0 f1 f2 sz s0
  obtain ⟨a0, a1, a2, r0, r1, r2, f0, f1, f2, sz, s0⟩ := hx.later hbx
  replace hb := below_next hb hbx
  clear hbx hx
  go_wp2
  exact bodyPost_ret (v := .tuple #[.agg #[.int .i64 2, .int .i64 0, .int .u64 (floatOfInt .f64 a.n : Nat)], .int .i64 0]) (by simp [results, Try.results13, go_sem, r0, r1, r2]) rfl ⟨rfl, by repeat (first | exact hb | exact Below.refl _ _ | refine below_setB ?_ (by omega) _ _ | refine below_alloc ?_ _)⟩

end Go.Proofs.Ytdeabmijoaepcaa
