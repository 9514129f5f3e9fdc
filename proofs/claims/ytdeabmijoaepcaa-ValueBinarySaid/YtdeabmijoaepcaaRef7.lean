/-
  The walk of the document's Binary: operations of ints.
-/
import Derived.Test.YtdeabmijoaepcaaRef6
import Derived.Test.YtdeabmijoaepcaaArithU
namespace Go.Proofs.Ytdeabmijoaepcaa
open Go.RowKit Go.Stk
set_option maxHeartbeats 4000000
set_option maxRecDepth 100000

theorem rb_add (op : ByteArray) (a b : Val) (w : World) (o : Int) (HO : Hid (∀ W : World, Calls Try.prog 43 #[.agg #[.int .i64 a.t, .int .i64 a.n, .int .u64 a.b], .agg #[.int .i64 b.t, .int .i64 b.n, .int .u64 b.b]] W (Ret W (.int .i64 o)))) (h : a.good = true) (h2 : b.good = true) (h3 : (a.t != b.t) = false) (ho : op.toList = [43]) (k3 : (a.t == 3) = false) (k2 : (a.t == 2) = false)  : Calls Try.prog 16 #[.string op, .agg #[.int .i64 a.t, .int .i64 a.n, .int .u64 a.b], .agg #[.int .i64 b.t, .int .i64 b.n, .int .u64 b.b]] w (Ret w (okR (intA (wrap64 (a.n + b.n))))) := by
  have HA := Lib.hid h
  have HB := Lib.hid h2
  clear h h2
  go_enter Try.func16, Try.ntmps16
  go_wp2_with fail
  have hj := refForm_any a.t a.n a.b (((w.alloc (.cells #[.int .i64 a.t, .int .i64 a.n, .int .u64 a.b] 24)).alloc (.cells #[.int .i64 b.t, .int .i64 b.n, .int .u64 b.b] 24)).alloc (.cells #[.int .i64 0, .int .i64 0, .int .u64 0] 24))
  rw [show (Val.mk a.t a.n a.b).good = true from HA.out] at hj
  refine hj.mono ?_
  rintro e w1 ⟨rfl, hb⟩
  clear hj
  have hx := (boxes_new w a b 24).later hb
  replace hb := below_next (below_alloc (below_alloc (below_alloc (Below.refl w.heap.size w) _) _) _) hb
  obtain ⟨a0, a1, a2, b0, b1, b2, r0, r1, r2, f0, f1, f2, sz, s0, s1⟩ := hx
  go_wp2_with fail
  have hx : Boxes w.heap.size a b w1 := ⟨a0, a1, a2, b0, b1, b2, r0, r1, r2, f0, f1, f2, sz, s0, s1⟩
  have hj := refForm_any b.t b.n b.b w1
  rw [show (Val.mk b.t b.n b.b).good = true from HB.out] at hj
  refine hj.mono ?_
  rintro e w2 ⟨rfl, hbx⟩
  clear hj a0 a1 a2 b0 b1 b2 r0 r1 r2 f0 f1 f2 sz s0 s1
  obtain ⟨a0, a1, a2, b0, b1, b2, r0, r1, r2, f0, f1, f2, sz, s0, s1⟩ := hx.later hbx
  replace hb := below_next hb hbx
  clear hbx hx
  go_wp2_with fail
  have hx : Boxes w.heap.size a b w2 := ⟨a0, a1, a2, b0, b1, b2, r0, r1, r2, f0, f1, f2, sz, s0, s1⟩
  refine (HO.out _).mono ?_
  rintro e w3 ⟨rfl, hbx⟩
  clear a0 a1 a2 b0 b1 b2 r0 r1 r2 f0 f1 f2 sz s0 s1
  obtain ⟨a0, a1, a2, b0, b1, b2, r0, r1, r2, f0, f1, f2, sz, s0, s1⟩ := hx.later hbx
  replace hb := below_next hb hbx
  clear hbx hx
  go_wp2_with fail
  go_quiet (fail)
  go_wp2_with fail
  have hx : Boxes w.heap.size a b w3 := ⟨a0, a1, a2, b0, b1, b2, r0, r1, r2, f0, f1, f2, sz, s0, s1⟩
  refine (refNumber_any _ _).mono ?_
  rintro e w4 ⟨rfl, hbx⟩
  clear a0 a1 a2 b0 b1 b2 r0 r1 r2 f0 f1 f2 sz s0 s1
  replace hbx := below_next (w := w3) (below_q (w := w3) (by repeat (first | exact Below.refl _ _ | refine below_drewN ?_ _ | refine below_drew ?_))) hbx
  obtain ⟨a0, a1, a2, b0, b1, b2, r0, r1, r2, f0, f1, f2, sz, s0, s1⟩ := hx.later hbx
  replace hb := below_next hb hbx
  clear hbx hx
  go_wp2
  exact bodyPost_ret (v := .tuple #[.agg #[.int .i64 1, .int .i64 (wrap64 (IntKind.u64.wrap (IntKind.u64.wrap a.n + IntKind.u64.wrap b.n))), .int .u64 0], .int .i64 0]) (by simp [results, Try.results16, go_sem, r0, r1, r2]) rfl ⟨by rw [show wrap64 (a.n + b.n) = (wrap64 (IntKind.u64.wrap (IntKind.u64.wrap a.n + IntKind.u64.wrap b.n))) from (u64_add a.n b.n).symm]; rfl, by repeat (first | exact hb | refine below_drewN ?_ _ | exact Below.refl _ _ | refine below_setB ?_ (by omega) _ _ | refine below_alloc ?_ _)⟩
theorem rb_sub (op : ByteArray) (a b : Val) (w : World) (o : Int) (HO : Hid (∀ W : World, Calls Try.prog 43 #[.agg #[.int .i64 a.t, .int .i64 a.n, .int .u64 a.b], .agg #[.int .i64 b.t, .int .i64 b.n, .int .u64 b.b]] W (Ret W (.int .i64 o)))) (h : a.good = true) (h2 : b.good = true) (h3 : (a.t != b.t) = false) (ho : op.toList = [45]) (k3 : (a.t == 3) = false) (k2 : (a.t == 2) = false)  : Calls Try.prog 16 #[.string op, .agg #[.int .i64 a.t, .int .i64 a.n, .int .u64 a.b], .agg #[.int .i64 b.t, .int .i64 b.n, .int .u64 b.b]] w (Ret w (okR (intA (wrap64 (a.n - b.n))))) := by
  have HA := Lib.hid h
  have HB := Lib.hid h2
  clear h h2
  go_enter Try.func16, Try.ntmps16
  go_wp2_with fail
  have hj := refForm_any a.t a.n a.b (((w.alloc (.cells #[.int .i64 a.t, .int .i64 a.n, .int .u64 a.b] 24)).alloc (.cells #[.int .i64 b.t, .int .i64 b.n, .int .u64 b.b] 24)).alloc (.cells #[.int .i64 0, .int .i64 0, .int .u64 0] 24))
  rw [show (Val.mk a.t a.n a.b).good = true from HA.out] at hj
  refine hj.mono ?_
  rintro e w1 ⟨rfl, hb⟩
  clear hj
  have hx := (boxes_new w a b 24).later hb
  replace hb := below_next (below_alloc (below_alloc (below_alloc (Below.refl w.heap.size w) _) _) _) hb
  obtain ⟨a0, a1, a2, b0, b1, b2, r0, r1, r2, f0, f1, f2, sz, s0, s1⟩ := hx
  go_wp2_with fail
  have hx : Boxes w.heap.size a b w1 := ⟨a0, a1, a2, b0, b1, b2, r0, r1, r2, f0, f1, f2, sz, s0, s1⟩
  have hj := refForm_any b.t b.n b.b w1
  rw [show (Val.mk b.t b.n b.b).good = true from HB.out] at hj
  refine hj.mono ?_
  rintro e w2 ⟨rfl, hbx⟩
  clear hj a0 a1 a2 b0 b1 b2 r0 r1 r2 f0 f1 f2 sz s0 s1
  obtain ⟨a0, a1, a2, b0, b1, b2, r0, r1, r2, f0, f1, f2, sz, s0, s1⟩ := hx.later hbx
  replace hb := below_next hb hbx
  clear hbx hx
  go_wp2_with fail
  have hx : Boxes w.heap.size a b w2 := ⟨a0, a1, a2, b0, b1, b2, r0, r1, r2, f0, f1, f2, sz, s0, s1⟩
  refine (HO.out _).mono ?_
  rintro e w3 ⟨rfl, hbx⟩
  clear a0 a1 a2 b0 b1 b2 r0 r1 r2 f0 f1 f2 sz s0 s1
  obtain ⟨a0, a1, a2, b0, b1, b2, r0, r1, r2, f0, f1, f2, sz, s0, s1⟩ := hx.later hbx
  replace hb := below_next hb hbx
  clear hbx hx
  go_wp2_with fail
  go_quiet (fail)
  go_wp2_with fail
  have hx : Boxes w.heap.size a b w3 := ⟨a0, a1, a2, b0, b1, b2, r0, r1, r2, f0, f1, f2, sz, s0, s1⟩
  refine (refNumber_any _ _).mono ?_
  rintro e w4 ⟨rfl, hbx⟩
  clear a0 a1 a2 b0 b1 b2 r0 r1 r2 f0 f1 f2 sz s0 s1
  replace hbx := below_next (w := w3) (below_q (w := w3) (by repeat (first | exact Below.refl _ _ | refine below_drewN ?_ _ | refine below_drew ?_))) hbx
  obtain ⟨a0, a1, a2, b0, b1, b2, r0, r1, r2, f0, f1, f2, sz, s0, s1⟩ := hx.later hbx
  replace hb := below_next hb hbx
  clear hbx hx
  go_wp2
  exact bodyPost_ret (v := .tuple #[.agg #[.int .i64 1, .int .i64 (wrap64 (IntKind.u64.wrap (IntKind.u64.wrap a.n - IntKind.u64.wrap b.n))), .int .u64 0], .int .i64 0]) (by simp [results, Try.results16, go_sem, r0, r1, r2]) rfl ⟨by rw [show wrap64 (a.n - b.n) = (wrap64 (IntKind.u64.wrap (IntKind.u64.wrap a.n - IntKind.u64.wrap b.n))) from (u64_sub a.n b.n).symm]; rfl, by repeat (first | exact hb | refine below_drewN ?_ _ | exact Below.refl _ _ | refine below_setB ?_ (by omega) _ _ | refine below_alloc ?_ _)⟩
theorem rb_mul (op : ByteArray) (a b : Val) (w : World) (o : Int) (HO : Hid (∀ W : World, Calls Try.prog 43 #[.agg #[.int .i64 a.t, .int .i64 a.n, .int .u64 a.b], .agg #[.int .i64 b.t, .int .i64 b.n, .int .u64 b.b]] W (Ret W (.int .i64 o)))) (h : a.good = true) (h2 : b.good = true) (h3 : (a.t != b.t) = false) (ho : op.toList = [42]) (k3 : (a.t == 3) = false) (k2 : (a.t == 2) = false)  : Calls Try.prog 16 #[.string op, .agg #[.int .i64 a.t, .int .i64 a.n, .int .u64 a.b], .agg #[.int .i64 b.t, .int .i64 b.n, .int .u64 b.b]] w (Ret w (okR (intA (wrap64 (a.n * b.n))))) := by
  have HA := Lib.hid h
  have HB := Lib.hid h2
  clear h h2
  go_enter Try.func16, Try.ntmps16
  go_wp2_with fail
  have hj := refForm_any a.t a.n a.b (((w.alloc (.cells #[.int .i64 a.t, .int .i64 a.n, .int .u64 a.b] 24)).alloc (.cells #[.int .i64 b.t, .int .i64 b.n, .int .u64 b.b] 24)).alloc (.cells #[.int .i64 0, .int .i64 0, .int .u64 0] 24))
  rw [show (Val.mk a.t a.n a.b).good = true from HA.out] at hj
  refine hj.mono ?_
  rintro e w1 ⟨rfl, hb⟩
  clear hj
  have hx := (boxes_new w a b 24).later hb
  replace hb := below_next (below_alloc (below_alloc (below_alloc (Below.refl w.heap.size w) _) _) _) hb
  obtain ⟨a0, a1, a2, b0, b1, b2, r0, r1, r2, f0, f1, f2, sz, s0, s1⟩ := hx
  go_wp2_with fail
  have hx : Boxes w.heap.size a b w1 := ⟨a0, a1, a2, b0, b1, b2, r0, r1, r2, f0, f1, f2, sz, s0, s1⟩
  have hj := refForm_any b.t b.n b.b w1
  rw [show (Val.mk b.t b.n b.b).good = true from HB.out] at hj
  refine hj.mono ?_
  rintro e w2 ⟨rfl, hbx⟩
  clear hj a0 a1 a2 b0 b1 b2 r0 r1 r2 f0 f1 f2 sz s0 s1
  obtain ⟨a0, a1, a2, b0, b1, b2, r0, r1, r2, f0, f1, f2, sz, s0, s1⟩ := hx.later hbx
  replace hb := below_next hb hbx
  clear hbx hx
  go_wp2_with fail
  have hx : Boxes w.heap.size a b w2 := ⟨a0, a1, a2, b0, b1, b2, r0, r1, r2, f0, f1, f2, sz, s0, s1⟩
  refine (HO.out _).mono ?_
  rintro e w3 ⟨rfl, hbx⟩
  clear a0 a1 a2 b0 b1 b2 r0 r1 r2 f0 f1 f2 sz s0 s1
  obtain ⟨a0, a1, a2, b0, b1, b2, r0, r1, r2, f0, f1, f2, sz, s0, s1⟩ := hx.later hbx
  replace hb := below_next hb hbx
  clear hbx hx
  go_wp2_with fail
  go_quiet (fail)
  go_wp2_with fail
  have hx : Boxes w.heap.size a b w3 := ⟨a0, a1, a2, b0, b1, b2, r0, r1, r2, f0, f1, f2, sz, s0, s1⟩
  refine (refNumber_any _ _).mono ?_
  rintro e w4 ⟨rfl, hbx⟩
  clear a0 a1 a2 b0 b1 b2 r0 r1 r2 f0 f1 f2 sz s0 s1
  replace hbx := below_next (w := w3) (below_q (w := w3) (by repeat (first | exact Below.refl _ _ | refine below_drewN ?_ _ | refine below_drew ?_))) hbx
  obtain ⟨a0, a1, a2, b0, b1, b2, r0, r1, r2, f0, f1, f2, sz, s0, s1⟩ := hx.later hbx
  replace hb := below_next hb hbx
  clear hbx hx
  go_wp2
  exact bodyPost_ret (v := .tuple #[.agg #[.int .i64 1, .int .i64 (wrap64 (IntKind.u64.wrap (IntKind.u64.wrap a.n * IntKind.u64.wrap b.n))), .int .u64 0], .int .i64 0]) (by simp [results, Try.results16, go_sem, r0, r1, r2]) rfl ⟨by rw [show wrap64 (a.n * b.n) = (wrap64 (IntKind.u64.wrap (IntKind.u64.wrap a.n * IntKind.u64.wrap b.n))) from (u64_mul a.n b.n).symm]; rfl, by repeat (first | exact hb | refine below_drewN ?_ _ | exact Below.refl _ _ | refine below_setB ?_ (by omega) _ _ | refine below_alloc ?_ _)⟩
theorem rb_div0 (op : ByteArray) (a : Val) (bt bb : Int) (w : World) (o : Int) (HO : Hid (∀ W : World, Calls Try.prog 43 #[.agg #[.int .i64 a.t, .int .i64 a.n, .int .u64 a.b], .agg #[.int .i64 bt, .int .i64 0, .int .u64 bb]] W (Ret W (.int .i64 o)))) (h : a.good = true) (h2 : (Val.mk bt 0 bb).good = true) (h3 : (a.t != bt) = false) (ho : op.toList = [47]) (k3 : (a.t == 3) = false) (k2 : (a.t == 2) = false)  : Calls Try.prog 16 #[.string op, .agg #[.int .i64 a.t, .int .i64 a.n, .int .u64 a.b], .agg #[.int .i64 bt, .int .i64 0, .int .u64 bb]] w (Ret w (badR 1)) := by
  have HA := Lib.hid h
  have HB := Lib.hid h2
  clear h h2
  go_enter Try.func16, Try.ntmps16
  go_wp2_with fail
  have hj := refForm_any a.t a.n a.b (((w.alloc (.cells #[.int .i64 a.t, .int .i64 a.n, .int .u64 a.b] 24)).alloc (.cells #[.int .i64 bt, .int .i64 0, .int .u64 bb] 24)).alloc (.cells #[.int .i64 0, .int .i64 0, .int .u64 0] 24))
  rw [show (Val.mk a.t a.n a.b).good = true from HA.out] at hj
  refine hj.mono ?_
  rintro e w1 ⟨rfl, hb⟩
  clear hj
  have hx := (boxes_new w a ⟨bt, 0, bb⟩ 24).later hb
  replace hb := below_next (below_alloc (below_alloc (below_alloc (Below.refl w.heap.size w) _) _) _) hb
  obtain ⟨a0, a1, a2, b0, b1, b2, r0, r1, r2, f0, f1, f2, sz, s0, s1⟩ := hx
  go_wp2_with fail
  have hx : Boxes w.heap.size a ⟨bt, 0, bb⟩ w1 := ⟨a0, a1, a2, b0, b1, b2, r0, r1, r2, f0, f1, f2, sz, s0, s1⟩
  have hj := refForm_any bt 0 bb w1
  rw [show (Val.mk bt 0 bb).good = true from HB.out] at hj
  refine hj.mono ?_
  rintro e w2 ⟨rfl, hbx⟩
  clear hj a0 a1 a2 b0 b1 b2 r0 r1 r2 f0 f1 f2 sz s0 s1
  obtain ⟨a0, a1, a2, b0, b1, b2, r0, r1, r2, f0, f1, f2, sz, s0, s1⟩ := hx.later hbx
  replace hb := below_next hb hbx
  clear hbx hx
  go_wp2_with fail
  have hx : Boxes w.heap.size a ⟨bt, 0, bb⟩ w2 := ⟨a0, a1, a2, b0, b1, b2, r0, r1, r2, f0, f1, f2, sz, s0, s1⟩
  refine (HO.out _).mono ?_
  rintro e w3 ⟨rfl, hbx⟩
  clear a0 a1 a2 b0 b1 b2 r0 r1 r2 f0 f1 f2 sz s0 s1
  obtain ⟨a0, a1, a2, b0, b1, b2, r0, r1, r2, f0, f1, f2, sz, s0, s1⟩ := hx.later hbx
  replace hb := below_next hb hbx
  clear hbx hx
  have z1 : IntKind.u64.wrap 0 = 0 := rfl
  go_wp2_with fail
  go_quiet (fail)
  go_wp2
  exact bodyPost_ret (v := .tuple #[.agg #[.int .i64 0, .int .i64 0, .int .u64 0], .int .i64 1]) (by simp [results, Try.results16, go_sem, r0, r1, r2]) rfl ⟨rfl, by repeat (first | exact hb | refine below_drewN ?_ _ | exact Below.refl _ _ | refine below_setB ?_ (by omega) _ _ | refine below_alloc ?_ _)⟩
theorem rb_rem0 (op : ByteArray) (a : Val) (bt bb : Int) (w : World) (o : Int) (HO : Hid (∀ W : World, Calls Try.prog 43 #[.agg #[.int .i64 a.t, .int .i64 a.n, .int .u64 a.b], .agg #[.int .i64 bt, .int .i64 0, .int .u64 bb]] W (Ret W (.int .i64 o)))) (h : a.good = true) (h2 : (Val.mk bt 0 bb).good = true) (h3 : (a.t != bt) = false) (ho : op.toList = [37]) (k3 : (a.t == 3) = false) (k2 : (a.t == 2) = false)  : Calls Try.prog 16 #[.string op, .agg #[.int .i64 a.t, .int .i64 a.n, .int .u64 a.b], .agg #[.int .i64 bt, .int .i64 0, .int .u64 bb]] w (Ret w (badR 1)) := by
  have HA := Lib.hid h
  have HB := Lib.hid h2
  clear h h2
  go_enter Try.func16, Try.ntmps16
  go_wp2_with fail
  have hj := refForm_any a.t a.n a.b (((w.alloc (.cells #[.int .i64 a.t, .int .i64 a.n, .int .u64 a.b] 24)).alloc (.cells #[.int .i64 bt, .int .i64 0, .int .u64 bb] 24)).alloc (.cells #[.int .i64 0, .int .i64 0, .int .u64 0] 24))
  rw [show (Val.mk a.t a.n a.b).good = true from HA.out] at hj
  refine hj.mono ?_
  rintro e w1 ⟨rfl, hb⟩
  clear hj
  have hx := (boxes_new w a ⟨bt, 0, bb⟩ 24).later hb
  replace hb := below_next (below_alloc (below_alloc (below_alloc (Below.refl w.heap.size w) _) _) _) hb
  obtain ⟨a0, a1, a2, b0, b1, b2, r0, r1, r2, f0, f1, f2, sz, s0, s1⟩ := hx
  go_wp2_with fail
  have hx : Boxes w.heap.size a ⟨bt, 0, bb⟩ w1 := ⟨a0, a1, a2, b0, b1, b2, r0, r1, r2, f0, f1, f2, sz, s0, s1⟩
  have hj := refForm_any bt 0 bb w1
  rw [show (Val.mk bt 0 bb).good = true from HB.out] at hj
  refine hj.mono ?_
  rintro e w2 ⟨rfl, hbx⟩
  clear hj a0 a1 a2 b0 b1 b2 r0 r1 r2 f0 f1 f2 sz s0 s1
  obtain ⟨a0, a1, a2, b0, b1, b2, r0, r1, r2, f0, f1, f2, sz, s0, s1⟩ := hx.later hbx
  replace hb := below_next hb hbx
  clear hbx hx
  go_wp2_with fail
  have hx : Boxes w.heap.size a ⟨bt, 0, bb⟩ w2 := ⟨a0, a1, a2, b0, b1, b2, r0, r1, r2, f0, f1, f2, sz, s0, s1⟩
  refine (HO.out _).mono ?_
  rintro e w3 ⟨rfl, hbx⟩
  clear a0 a1 a2 b0 b1 b2 r0 r1 r2 f0 f1 f2 sz s0 s1
  obtain ⟨a0, a1, a2, b0, b1, b2, r0, r1, r2, f0, f1, f2, sz, s0, s1⟩ := hx.later hbx
  replace hb := below_next hb hbx
  clear hbx hx
  have z1 : IntKind.u64.wrap 0 = 0 := rfl
  go_wp2_with fail
  go_quiet (fail)
  go_wp2
  exact bodyPost_ret (v := .tuple #[.agg #[.int .i64 0, .int .i64 0, .int .u64 0], .int .i64 1]) (by simp [results, Try.results16, go_sem, r0, r1, r2]) rfl ⟨rfl, by repeat (first | exact hb | refine below_drewN ?_ _ | exact Below.refl _ _ | refine below_setB ?_ (by omega) _ _ | refine below_alloc ?_ _)⟩
theorem rb_int_none (op : ByteArray) (a b : Val) (w : World) (o : Int) (HO : Hid (∀ W : World, Calls Try.prog 43 #[.agg #[.int .i64 a.t, .int .i64 a.n, .int .u64 a.b], .agg #[.int .i64 b.t, .int .i64 b.n, .int .u64 b.b]] W (Ret W (.int .i64 o)))) (h : a.good = true) (h2 : b.good = true) (h3 : (a.t != b.t) = false) (e0 : (op.toList == [61, 61]) = false) (e1 : (op.toList == [33, 61]) = false) (e2 : (op.toList == [60]) = false) (e3 : (op.toList == [60, 61]) = false) (e4 : (op.toList == [62]) = false) (e5 : (op.toList == [62, 61]) = false) (e6 : (op.toList == [43]) = false) (e7 : (op.toList == [45]) = false) (e8 : (op.toList == [42]) = false) (e9 : (op.toList == [47]) = false) (e10 : (op.toList == [37]) = false) (k3 : (a.t == 3) = false) (k2 : (a.t == 2) = false)  : Calls Try.prog 16 #[.string op, .agg #[.int .i64 a.t, .int .i64 a.n, .int .u64 a.b], .agg #[.int .i64 b.t, .int .i64 b.n, .int .u64 b.b]] w (Ret w (badR (-1))) := by
  have HA := Lib.hid h
  have HB := Lib.hid h2
  clear h h2
  go_enter Try.func16, Try.ntmps16
  go_wp2_with fail
  have hj := refForm_any a.t a.n a.b (((w.alloc (.cells #[.int .i64 a.t, .int .i64 a.n, .int .u64 a.b] 24)).alloc (.cells #[.int .i64 b.t, .int .i64 b.n, .int .u64 b.b] 24)).alloc (.cells #[.int .i64 0, .int .i64 0, .int .u64 0] 24))
  rw [show (Val.mk a.t a.n a.b).good = true from HA.out] at hj
  refine hj.mono ?_
  rintro e w1 ⟨rfl, hb⟩
  clear hj
  have hx := (boxes_new w a b 24).later hb
  replace hb := below_next (below_alloc (below_alloc (below_alloc (Below.refl w.heap.size w) _) _) _) hb
  obtain ⟨a0, a1, a2, b0, b1, b2, r0, r1, r2, f0, f1, f2, sz, s0, s1⟩ := hx
  go_wp2_with fail
  have hx : Boxes w.heap.size a b w1 := ⟨a0, a1, a2, b0, b1, b2, r0, r1, r2, f0, f1, f2, sz, s0, s1⟩
  have hj := refForm_any b.t b.n b.b w1
  rw [show (Val.mk b.t b.n b.b).good = true from HB.out] at hj
  refine hj.mono ?_
  rintro e w2 ⟨rfl, hbx⟩
  clear hj a0 a1 a2 b0 b1 b2 r0 r1 r2 f0 f1 f2 sz s0 s1
  obtain ⟨a0, a1, a2, b0, b1, b2, r0, r1, r2, f0, f1, f2, sz, s0, s1⟩ := hx.later hbx
  replace hb := below_next hb hbx
  clear hbx hx
  go_wp2_with fail
  have hx : Boxes w.heap.size a b w2 := ⟨a0, a1, a2, b0, b1, b2, r0, r1, r2, f0, f1, f2, sz, s0, s1⟩
  refine (HO.out _).mono ?_
  rintro e w3 ⟨rfl, hbx⟩
  clear a0 a1 a2 b0 b1 b2 r0 r1 r2 f0 f1 f2 sz s0 s1
  obtain ⟨a0, a1, a2, b0, b1, b2, r0, r1, r2, f0, f1, f2, sz, s0, s1⟩ := hx.later hbx
  replace hb := below_next hb hbx
  clear hbx hx
  go_wp2_with fail
  go_quiet (fail)
  go_wp2
  exact bodyPost_ret (v := .tuple #[.agg #[.int .i64 0, .int .i64 0, .int .u64 0], .int .i64 (-1)]) (by simp [results, Try.results16, go_sem, r0, r1, r2]) rfl ⟨rfl, by repeat (first | exact hb | refine below_drewN ?_ _ | exact Below.refl _ _ | refine below_setB ?_ (by omega) _ _ | refine below_alloc ?_ _)⟩
theorem rb_quo00 (op : ByteArray) (a b : Val) (w : World) (o : Int) (HO : Hid (∀ W : World, Calls Try.prog 43 #[.agg #[.int .i64 a.t, .int .i64 a.n, .int .u64 a.b], .agg #[.int .i64 b.t, .int .i64 b.n, .int .u64 b.b]] W (Ret W (.int .i64 o)))) (h : a.good = true) (h2 : b.good = true) (h3 : (a.t != b.t) = false) (ho : op.toList = [47]) (g1 : decide (a.n < 0) = false) (g2 : decide (b.n < 0) = false) (P Q : Int) (eU : IntKind.u64.wrap a.n = P) (eV : IntKind.u64.wrap b.n = Q) (z0 : (Q == 0) = false) (y1 : ¬ Q = 0) (k3 : (a.t == 3) = false) (k2 : (a.t == 2) = false)  : Calls Try.prog 16 #[.string op, .agg #[.int .i64 a.t, .int .i64 a.n, .int .u64 a.b], .agg #[.int .i64 b.t, .int .i64 b.n, .int .u64 b.b]] w (Ret w (okR (intA (wrap64 (IntKind.u64.wrap (P.tdiv Q)))))) := by
  have HA := Lib.hid h
  have HB := Lib.hid h2
  clear h h2
  go_enter Try.func16, Try.ntmps16
  go_wp2_with fail
  have hj := refForm_any a.t a.n a.b (((w.alloc (.cells #[.int .i64 a.t, .int .i64 a.n, .int .u64 a.b] 24)).alloc (.cells #[.int .i64 b.t, .int .i64 b.n, .int .u64 b.b] 24)).alloc (.cells #[.int .i64 0, .int .i64 0, .int .u64 0] 24))
  rw [show (Val.mk a.t a.n a.b).good = true from HA.out] at hj
  refine hj.mono ?_
  rintro e w1 ⟨rfl, hb⟩
  clear hj
  have hx := (boxes_new w a b 24).later hb
  replace hb := below_next (below_alloc (below_alloc (below_alloc (Below.refl w.heap.size w) _) _) _) hb
  obtain ⟨a0, a1, a2, b0, b1, b2, r0, r1, r2, f0, f1, f2, sz, s0, s1⟩ := hx
  go_wp2_with fail
  have hx : Boxes w.heap.size a b w1 := ⟨a0, a1, a2, b0, b1, b2, r0, r1, r2, f0, f1, f2, sz, s0, s1⟩
  have hj := refForm_any b.t b.n b.b w1
  rw [show (Val.mk b.t b.n b.b).good = true from HB.out] at hj
  refine hj.mono ?_
  rintro e w2 ⟨rfl, hbx⟩
  clear hj a0 a1 a2 b0 b1 b2 r0 r1 r2 f0 f1 f2 sz s0 s1
  obtain ⟨a0, a1, a2, b0, b1, b2, r0, r1, r2, f0, f1, f2, sz, s0, s1⟩ := hx.later hbx
  replace hb := below_next hb hbx
  clear hbx hx
  go_wp2_with fail
  have hx : Boxes w.heap.size a b w2 := ⟨a0, a1, a2, b0, b1, b2, r0, r1, r2, f0, f1, f2, sz, s0, s1⟩
  refine (HO.out _).mono ?_
  rintro e w3 ⟨rfl, hbx⟩
  clear a0 a1 a2 b0 b1 b2 r0 r1 r2 f0 f1 f2 sz s0 s1
  obtain ⟨a0, a1, a2, b0, b1, b2, r0, r1, r2, f0, f1, f2, sz, s0, s1⟩ := hx.later hbx
  replace hb := below_next hb hbx
  clear hbx hx
  go_wp2_with fail
  go_quiet (fail)
  go_wp2_with fail
  go_simp
  go_quiet (fail)
  go_wp2_with fail
  have hx : Boxes w.heap.size a b w3 := ⟨a0, a1, a2, b0, b1, b2, r0, r1, r2, f0, f1, f2, sz, s0, s1⟩
  refine (refNumber_any _ _).mono ?_
  rintro e w4 ⟨rfl, hbx⟩
  clear a0 a1 a2 b0 b1 b2 r0 r1 r2 f0 f1 f2 sz s0 s1
  replace hbx := below_next (w := w3) (below_q (w := w3) (by repeat (first | exact Below.refl _ _ | refine below_drewN ?_ _ | refine below_drew ?_))) hbx
  obtain ⟨a0, a1, a2, b0, b1, b2, r0, r1, r2, f0, f1, f2, sz, s0, s1⟩ := hx.later hbx
  replace hb := below_next hb hbx
  clear hbx hx
  go_wp2
  exact bodyPost_ret (v := .tuple #[.agg #[.int .i64 1, .int .i64 (wrap64 (IntKind.u64.wrap (P.tdiv Q))), .int .u64 0], .int .i64 0]) (by simp [results, Try.results16, go_sem, r0, r1, r2]) rfl ⟨rfl, by repeat (first | exact hb | refine below_drewN ?_ _ | exact Below.refl _ _ | refine below_setB ?_ (by omega) _ _ | refine below_alloc ?_ _)⟩
theorem rb_quo01 (op : ByteArray) (a b : Val) (w : World) (o : Int) (HO : Hid (∀ W : World, Calls Try.prog 43 #[.agg #[.int .i64 a.t, .int .i64 a.n, .int .u64 a.b], .agg #[.int .i64 b.t, .int .i64 b.n, .int .u64 b.b]] W (Ret W (.int .i64 o)))) (h : a.good = true) (h2 : b.good = true) (h3 : (a.t != b.t) = false) (ho : op.toList = [47]) (g1 : decide (a.n < 0) = false) (g2 : decide (b.n < 0) = true) (P Q : Int) (eU : IntKind.u64.wrap a.n = P) (V : Int) (eV : IntKind.u64.wrap b.n = V) (z0 : (V == 0) = false) (eQ : IntKind.u64.wrap (-V) = Q) (y1 : ¬ Q = 0) (k3 : (a.t == 3) = false) (k2 : (a.t == 2) = false)  : Calls Try.prog 16 #[.string op, .agg #[.int .i64 a.t, .int .i64 a.n, .int .u64 a.b], .agg #[.int .i64 b.t, .int .i64 b.n, .int .u64 b.b]] w (Ret w (okR (intA (wrap64 (IntKind.u64.wrap (-(IntKind.u64.wrap (P.tdiv Q)))))))) := by
  have HA := Lib.hid h
  have HB := Lib.hid h2
  clear h h2
  go_enter Try.func16, Try.ntmps16
  go_wp2_with fail
  have hj := refForm_any a.t a.n a.b (((w.alloc (.cells #[.int .i64 a.t, .int .i64 a.n, .int .u64 a.b] 24)).alloc (.cells #[.int .i64 b.t, .int .i64 b.n, .int .u64 b.b] 24)).alloc (.cells #[.int .i64 0, .int .i64 0, .int .u64 0] 24))
  rw [show (Val.mk a.t a.n a.b).good = true from HA.out] at hj
  refine hj.mono ?_
  rintro e w1 ⟨rfl, hb⟩
  clear hj
  have hx := (boxes_new w a b 24).later hb
  replace hb := below_next (below_alloc (below_alloc (below_alloc (Below.refl w.heap.size w) _) _) _) hb
  obtain ⟨a0, a1, a2, b0, b1, b2, r0, r1, r2, f0, f1, f2, sz, s0, s1⟩ := hx
  go_wp2_with fail
  have hx : Boxes w.heap.size a b w1 := ⟨a0, a1, a2, b0, b1, b2, r0, r1, r2, f0, f1, f2, sz, s0, s1⟩
  have hj := refForm_any b.t b.n b.b w1
  rw [show (Val.mk b.t b.n b.b).good = true from HB.out] at hj
  refine hj.mono ?_
  rintro e w2 ⟨rfl, hbx⟩
  clear hj a0 a1 a2 b0 b1 b2 r0 r1 r2 f0 f1 f2 sz s0 s1
  obtain ⟨a0, a1, a2, b0, b1, b2, r0, r1, r2, f0, f1, f2, sz, s0, s1⟩ := hx.later hbx
  replace hb := below_next hb hbx
  clear hbx hx
  go_wp2_with fail
  have hx : Boxes w.heap.size a b w2 := ⟨a0, a1, a2, b0, b1, b2, r0, r1, r2, f0, f1, f2, sz, s0, s1⟩
  refine (HO.out _).mono ?_
  rintro e w3 ⟨rfl, hbx⟩
  clear a0 a1 a2 b0 b1 b2 r0 r1 r2 f0 f1 f2 sz s0 s1
  obtain ⟨a0, a1, a2, b0, b1, b2, r0, r1, r2, f0, f1, f2, sz, s0, s1⟩ := hx.later hbx
  replace hb := below_next hb hbx
  clear hbx hx
  go_wp2_with fail
  go_quiet (fail)
  go_wp2_with fail
  go_simp
  go_quiet (fail)
  go_wp2_with fail
  have hx : Boxes w.heap.size a b w3 := ⟨a0, a1, a2, b0, b1, b2, r0, r1, r2, f0, f1, f2, sz, s0, s1⟩
  refine (refNumber_any _ _).mono ?_
  rintro e w4 ⟨rfl, hbx⟩
  clear a0 a1 a2 b0 b1 b2 r0 r1 r2 f0 f1 f2 sz s0 s1
  replace hbx := below_next (w := w3) (below_q (w := w3) (by repeat (first | exact Below.refl _ _ | refine below_drewN ?_ _ | refine below_drew ?_))) hbx
  obtain ⟨a0, a1, a2, b0, b1, b2, r0, r1, r2, f0, f1, f2, sz, s0, s1⟩ := hx.later hbx
  replace hb := below_next hb hbx
  clear hbx hx
  go_wp2
  exact bodyPost_ret (v := .tuple #[.agg #[.int .i64 1, .int .i64 (wrap64 (IntKind.u64.wrap (-(IntKind.u64.wrap (P.tdiv Q))))), .int .u64 0], .int .i64 0]) (by simp [results, Try.results16, go_sem, r0, r1, r2]) rfl ⟨rfl, by repeat (first | exact hb | refine below_drewN ?_ _ | exact Below.refl _ _ | refine below_setB ?_ (by omega) _ _ | refine below_alloc ?_ _)⟩
theorem rb_quo10 (op : ByteArray) (a b : Val) (w : World) (o : Int) (HO : Hid (∀ W : World, Calls Try.prog 43 #[.agg #[.int .i64 a.t, .int .i64 a.n, .int .u64 a.b], .agg #[.int .i64 b.t, .int .i64 b.n, .int .u64 b.b]] W (Ret W (.int .i64 o)))) (h : a.good = true) (h2 : b.good = true) (h3 : (a.t != b.t) = false) (ho : op.toList = [47]) (g1 : decide (a.n < 0) = true) (g2 : decide (b.n < 0) = false) (P Q : Int) (U : Int) (eU : IntKind.u64.wrap a.n = U) (eP : IntKind.u64.wrap (-U) = P) (eV : IntKind.u64.wrap b.n = Q) (z0 : (Q == 0) = false) (y1 : ¬ Q = 0) (k3 : (a.t == 3) = false) (k2 : (a.t == 2) = false)  : Calls Try.prog 16 #[.string op, .agg #[.int .i64 a.t, .int .i64 a.n, .int .u64 a.b], .agg #[.int .i64 b.t, .int .i64 b.n, .int .u64 b.b]] w (Ret w (okR (intA (wrap64 (IntKind.u64.wrap (-(IntKind.u64.wrap (P.tdiv Q)))))))) := by
  have HA := Lib.hid h
  have HB := Lib.hid h2
  clear h h2
  go_enter Try.func16, Try.ntmps16
  go_wp2_with fail
  have hj := refForm_any a.t a.n a.b (((w.alloc (.cells #[.int .i64 a.t, .int .i64 a.n, .int .u64 a.b] 24)).alloc (.cells #[.int .i64 b.t, .int .i64 b.n, .int .u64 b.b] 24)).alloc (.cells #[.int .i64 0, .int .i64 0, .int .u64 0] 24))
  rw [show (Val.mk a.t a.n a.b).good = true from HA.out] at hj
  refine hj.mono ?_
  rintro e w1 ⟨rfl, hb⟩
  clear hj
  have hx := (boxes_new w a b 24).later hb
  replace hb := below_next (below_alloc (below_alloc (below_alloc (Below.refl w.heap.size w) _) _) _) hb
  obtain ⟨a0, a1, a2, b0, b1, b2, r0, r1, r2, f0, f1, f2, sz, s0, s1⟩ := hx
  go_wp2_with fail
  have hx : Boxes w.heap.size a b w1 := ⟨a0, a1, a2, b0, b1, b2, r0, r1, r2, f0, f1, f2, sz, s0, s1⟩
  have hj := refForm_any b.t b.n b.b w1
  rw [show (Val.mk b.t b.n b.b).good = true from HB.out] at hj
  refine hj.mono ?_
  rintro e w2 ⟨rfl, hbx⟩
  clear hj a0 a1 a2 b0 b1 b2 r0 r1 r2 f0 f1 f2 sz s0 s1
  obtain ⟨a0, a1, a2, b0, b1, b2, r0, r1, r2, f0, f1, f2, sz, s0, s1⟩ := hx.later hbx
  replace hb := below_next hb hbx
  clear hbx hx
  go_wp2_with fail
  have hx : Boxes w.heap.size a b w2 := ⟨a0, a1, a2, b0, b1, b2, r0, r1, r2, f0, f1, f2, sz, s0, s1⟩
  refine (HO.out _).mono ?_
  rintro e w3 ⟨rfl, hbx⟩
  clear a0 a1 a2 b0 b1 b2 r0 r1 r2 f0 f1 f2 sz s0 s1
  obtain ⟨a0, a1, a2, b0, b1, b2, r0, r1, r2, f0, f1, f2, sz, s0, s1⟩ := hx.later hbx
  replace hb := below_next hb hbx
  clear hbx hx
  go_wp2_with fail
  go_quiet (fail)
  go_wp2_with fail
  go_simp
  go_quiet (fail)
  go_wp2_with fail
  have hx : Boxes w.heap.size a b w3 := ⟨a0, a1, a2, b0, b1, b2, r0, r1, r2, f0, f1, f2, sz, s0, s1⟩
  refine (refNumber_any _ _).mono ?_
  rintro e w4 ⟨rfl, hbx⟩
  clear a0 a1 a2 b0 b1 b2 r0 r1 r2 f0 f1 f2 sz s0 s1
  replace hbx := below_next (w := w3) (below_q (w := w3) (by repeat (first | exact Below.refl _ _ | refine below_drewN ?_ _ | refine below_drew ?_))) hbx
  obtain ⟨a0, a1, a2, b0, b1, b2, r0, r1, r2, f0, f1, f2, sz, s0, s1⟩ := hx.later hbx
  replace hb := below_next hb hbx
  clear hbx hx
  go_wp2
  exact bodyPost_ret (v := .tuple #[.agg #[.int .i64 1, .int .i64 (wrap64 (IntKind.u64.wrap (-(IntKind.u64.wrap (P.tdiv Q))))), .int .u64 0], .int .i64 0]) (by simp [results, Try.results16, go_sem, r0, r1, r2]) rfl ⟨rfl, by repeat (first | exact hb | refine below_drewN ?_ _ | exact Below.refl _ _ | refine below_setB ?_ (by omega) _ _ | refine below_alloc ?_ _)⟩
theorem rb_quo11 (op : ByteArray) (a b : Val) (w : World) (o : Int) (HO : Hid (∀ W : World, Calls Try.prog 43 #[.agg #[.int .i64 a.t, .int .i64 a.n, .int .u64 a.b], .agg #[.int .i64 b.t, .int .i64 b.n, .int .u64 b.b]] W (Ret W (.int .i64 o)))) (h : a.good = true) (h2 : b.good = true) (h3 : (a.t != b.t) = false) (ho : op.toList = [47]) (g1 : decide (a.n < 0) = true) (g2 : decide (b.n < 0) = true) (P Q : Int) (U : Int) (eU : IntKind.u64.wrap a.n = U) (eP : IntKind.u64.wrap (-U) = P) (V : Int) (eV : IntKind.u64.wrap b.n = V) (z0 : (V == 0) = false) (eQ : IntKind.u64.wrap (-V) = Q) (y1 : ¬ Q = 0) (k3 : (a.t == 3) = false) (k2 : (a.t == 2) = false)  : Calls Try.prog 16 #[.string op, .agg #[.int .i64 a.t, .int .i64 a.n, .int .u64 a.b], .agg #[.int .i64 b.t, .int .i64 b.n, .int .u64 b.b]] w (Ret w (okR (intA (wrap64 (IntKind.u64.wrap (P.tdiv Q)))))) := by
  have HA := Lib.hid h
  have HB := Lib.hid h2
  clear h h2
  go_enter Try.func16, Try.ntmps16
  go_wp2_with fail
  have hj := refForm_any a.t a.n a.b (((w.alloc (.cells #[.int .i64 a.t, .int .i64 a.n, .int .u64 a.b] 24)).alloc (.cells #[.int .i64 b.t, .int .i64 b.n, .int .u64 b.b] 24)).alloc (.cells #[.int .i64 0, .int .i64 0, .int .u64 0] 24))
  rw [show (Val.mk a.t a.n a.b).good = true from HA.out] at hj
  refine hj.mono ?_
  rintro e w1 ⟨rfl, hb⟩
  clear hj
  have hx := (boxes_new w a b 24).later hb
  replace hb := below_next (below_alloc (below_alloc (below_alloc (Below.refl w.heap.size w) _) _) _) hb
  obtain ⟨a0, a1, a2, b0, b1, b2, r0, r1, r2, f0, f1, f2, sz, s0, s1⟩ := hx
  go_wp2_with fail
  have hx : Boxes w.heap.size a b w1 := ⟨a0, a1, a2, b0, b1, b2, r0, r1, r2, f0, f1, f2, sz, s0, s1⟩
  have hj := refForm_any b.t b.n b.b w1
  rw [show (Val.mk b.t b.n b.b).good = true from HB.out] at hj
  refine hj.mono ?_
  rintro e w2 ⟨rfl, hbx⟩
  clear hj a0 a1 a2 b0 b1 b2 r0 r1 r2 f0 f1 f2 sz s0 s1
  obtain ⟨a0, a1, a2, b0, b1, b2, r0, r1, r2, f0, f1, f2, sz, s0, s1⟩ := hx.later hbx
  replace hb := below_next hb hbx
  clear hbx hx
  go_wp2_with fail
  have hx : Boxes w.heap.size a b w2 := ⟨a0, a1, a2, b0, b1, b2, r0, r1, r2, f0, f1, f2, sz, s0, s1⟩
  refine (HO.out _).mono ?_
  rintro e w3 ⟨rfl, hbx⟩
  clear a0 a1 a2 b0 b1 b2 r0 r1 r2 f0 f1 f2 sz s0 s1
  obtain ⟨a0, a1, a2, b0, b1, b2, r0, r1, r2, f0, f1, f2, sz, s0, s1⟩ := hx.later hbx
  replace hb := below_next hb hbx
  clear hbx hx
  go_wp2_with fail
  go_quiet (fail)
  go_wp2_with fail
  go_simp
  go_quiet (fail)
  go_wp2_with fail
  have hx : Boxes w.heap.size a b w3 := ⟨a0, a1, a2, b0, b1, b2, r0, r1, r2, f0, f1, f2, sz, s0, s1⟩
  refine (refNumber_any _ _).mono ?_
  rintro e w4 ⟨rfl, hbx⟩
  clear a0 a1 a2 b0 b1 b2 r0 r1 r2 f0 f1 f2 sz s0 s1
  replace hbx := below_next (w := w3) (below_q (w := w3) (by repeat (first | exact Below.refl _ _ | refine below_drewN ?_ _ | refine below_drew ?_))) hbx
  obtain ⟨a0, a1, a2, b0, b1, b2, r0, r1, r2, f0, f1, f2, sz, s0, s1⟩ := hx.later hbx
  replace hb := below_next hb hbx
  clear hbx hx
  go_wp2
  exact bodyPost_ret (v := .tuple #[.agg #[.int .i64 1, .int .i64 (wrap64 (IntKind.u64.wrap (P.tdiv Q))), .int .u64 0], .int .i64 0]) (by simp [results, Try.results16, go_sem, r0, r1, r2]) rfl ⟨rfl, by repeat (first | exact hb | refine below_drewN ?_ _ | exact Below.refl _ _ | refine below_setB ?_ (by omega) _ _ | refine below_alloc ?_ _)⟩
theorem rb_rem00 (op : ByteArray) (a b : Val) (w : World) (o : Int) (HO : Hid (∀ W : World, Calls Try.prog 43 #[.agg #[.int .i64 a.t, .int .i64 a.n, .int .u64 a.b], .agg #[.int .i64 b.t, .int .i64 b.n, .int .u64 b.b]] W (Ret W (.int .i64 o)))) (h : a.good = true) (h2 : b.good = true) (h3 : (a.t != b.t) = false) (ho : op.toList = [37]) (g1 : decide (a.n < 0) = false) (g2 : decide (b.n < 0) = false) (P Q : Int) (eU : IntKind.u64.wrap a.n = P) (eV : IntKind.u64.wrap b.n = Q) (z0 : (Q == 0) = false) (y1 : ¬ Q = 0) (k3 : (a.t == 3) = false) (k2 : (a.t == 2) = false)  : Calls Try.prog 16 #[.string op, .agg #[.int .i64 a.t, .int .i64 a.n, .int .u64 a.b], .agg #[.int .i64 b.t, .int .i64 b.n, .int .u64 b.b]] w (Ret w (okR (intA (wrap64 (P.tmod Q))))) := by
  have HA := Lib.hid h
  have HB := Lib.hid h2
  clear h h2
  go_enter Try.func16, Try.ntmps16
  go_wp2_with fail
  have hj := refForm_any a.t a.n a.b (((w.alloc (.cells #[.int .i64 a.t, .int .i64 a.n, .int .u64 a.b] 24)).alloc (.cells #[.int .i64 b.t, .int .i64 b.n, .int .u64 b.b] 24)).alloc (.cells #[.int .i64 0, .int .i64 0, .int .u64 0] 24))
  rw [show (Val.mk a.t a.n a.b).good = true from HA.out] at hj
  refine hj.mono ?_
  rintro e w1 ⟨rfl, hb⟩
  clear hj
  have hx := (boxes_new w a b 24).later hb
  replace hb := below_next (below_alloc (below_alloc (below_alloc (Below.refl w.heap.size w) _) _) _) hb
  obtain ⟨a0, a1, a2, b0, b1, b2, r0, r1, r2, f0, f1, f2, sz, s0, s1⟩ := hx
  go_wp2_with fail
  have hx : Boxes w.heap.size a b w1 := ⟨a0, a1, a2, b0, b1, b2, r0, r1, r2, f0, f1, f2, sz, s0, s1⟩
  have hj := refForm_any b.t b.n b.b w1
  rw [show (Val.mk b.t b.n b.b).good = true from HB.out] at hj
  refine hj.mono ?_
  rintro e w2 ⟨rfl, hbx⟩
  clear hj a0 a1 a2 b0 b1 b2 r0 r1 r2 f0 f1 f2 sz s0 s1
  obtain ⟨a0, a1, a2, b0, b1, b2, r0, r1, r2, f0, f1, f2, sz, s0, s1⟩ := hx.later hbx
  replace hb := below_next hb hbx
  clear hbx hx
  go_wp2_with fail
  have hx : Boxes w.heap.size a b w2 := ⟨a0, a1, a2, b0, b1, b2, r0, r1, r2, f0, f1, f2, sz, s0, s1⟩
  refine (HO.out _).mono ?_
  rintro e w3 ⟨rfl, hbx⟩
  clear a0 a1 a2 b0 b1 b2 r0 r1 r2 f0 f1 f2 sz s0 s1
  obtain ⟨a0, a1, a2, b0, b1, b2, r0, r1, r2, f0, f1, f2, sz, s0, s1⟩ := hx.later hbx
  replace hb := below_next hb hbx
  clear hbx hx
  go_wp2_with fail
  go_quiet (fail)
  go_wp2_with fail
  go_simp
  go_quiet (fail)
  go_wp2_with fail
  have hx : Boxes w.heap.size a b w3 := ⟨a0, a1, a2, b0, b1, b2, r0, r1, r2, f0, f1, f2, sz, s0, s1⟩
  refine (refNumber_any _ _).mono ?_
  rintro e w4 ⟨rfl, hbx⟩
  clear a0 a1 a2 b0 b1 b2 r0 r1 r2 f0 f1 f2 sz s0 s1
  replace hbx := below_next (w := w3) (below_q (w := w3) (by repeat (first | exact Below.refl _ _ | refine below_drewN ?_ _ | refine below_drew ?_))) hbx
  obtain ⟨a0, a1, a2, b0, b1, b2, r0, r1, r2, f0, f1, f2, sz, s0, s1⟩ := hx.later hbx
  replace hb := below_next hb hbx
  clear hbx hx
  go_wp2
  exact bodyPost_ret (v := .tuple #[.agg #[.int .i64 1, .int .i64 (wrap64 (P.tmod Q)), .int .u64 0], .int .i64 0]) (by simp [results, Try.results16, go_sem, r0, r1, r2]) rfl ⟨rfl, by repeat (first | exact hb | refine below_drewN ?_ _ | exact Below.refl _ _ | refine below_setB ?_ (by omega) _ _ | refine below_alloc ?_ _)⟩
theorem rb_rem01 (op : ByteArray) (a b : Val) (w : World) (o : Int) (HO : Hid (∀ W : World, Calls Try.prog 43 #[.agg #[.int .i64 a.t, .int .i64 a.n, .int .u64 a.b], .agg #[.int .i64 b.t, .int .i64 b.n, .int .u64 b.b]] W (Ret W (.int .i64 o)))) (h : a.good = true) (h2 : b.good = true) (h3 : (a.t != b.t) = false) (ho : op.toList = [37]) (g1 : decide (a.n < 0) = false) (g2 : decide (b.n < 0) = true) (P Q : Int) (eU : IntKind.u64.wrap a.n = P) (V : Int) (eV : IntKind.u64.wrap b.n = V) (z0 : (V == 0) = false) (eQ : IntKind.u64.wrap (-V) = Q) (y1 : ¬ Q = 0) (k3 : (a.t == 3) = false) (k2 : (a.t == 2) = false)  : Calls Try.prog 16 #[.string op, .agg #[.int .i64 a.t, .int .i64 a.n, .int .u64 a.b], .agg #[.int .i64 b.t, .int .i64 b.n, .int .u64 b.b]] w (Ret w (okR (intA (wrap64 (P.tmod Q))))) := by
  have HA := Lib.hid h
  have HB := Lib.hid h2
  clear h h2
  go_enter Try.func16, Try.ntmps16
  go_wp2_with fail
  have hj := refForm_any a.t a.n a.b (((w.alloc (.cells #[.int .i64 a.t, .int .i64 a.n, .int .u64 a.b] 24)).alloc (.cells #[.int .i64 b.t, .int .i64 b.n, .int .u64 b.b] 24)).alloc (.cells #[.int .i64 0, .int .i64 0, .int .u64 0] 24))
  rw [show (Val.mk a.t a.n a.b).good = true from HA.out] at hj
  refine hj.mono ?_
  rintro e w1 ⟨rfl, hb⟩
  clear hj
  have hx := (boxes_new w a b 24).later hb
  replace hb := below_next (below_alloc (below_alloc (below_alloc (Below.refl w.heap.size w) _) _) _) hb
  obtain ⟨a0, a1, a2, b0, b1, b2, r0, r1, r2, f0, f1, f2, sz, s0, s1⟩ := hx
  go_wp2_with fail
  have hx : Boxes w.heap.size a b w1 := ⟨a0, a1, a2, b0, b1, b2, r0, r1, r2, f0, f1, f2, sz, s0, s1⟩
  have hj := refForm_any b.t b.n b.b w1
  rw [show (Val.mk b.t b.n b.b).good = true from HB.out] at hj
  refine hj.mono ?_
  rintro e w2 ⟨rfl, hbx⟩
  clear hj a0 a1 a2 b0 b1 b2 r0 r1 r2 f0 f1 f2 sz s0 s1
  obtain ⟨a0, a1, a2, b0, b1, b2, r0, r1, r2, f0, f1, f2, sz, s0, s1⟩ := hx.later hbx
  replace hb := below_next hb hbx
  clear hbx hx
  go_wp2_with fail
  have hx : Boxes w.heap.size a b w2 := ⟨a0, a1, a2, b0, b1, b2, r0, r1, r2, f0, f1, f2, sz, s0, s1⟩
  refine (HO.out _).mono ?_
  rintro e w3 ⟨rfl, hbx⟩
  clear a0 a1 a2 b0 b1 b2 r0 r1 r2 f0 f1 f2 sz s0 s1
  obtain ⟨a0, a1, a2, b0, b1, b2, r0, r1, r2, f0, f1, f2, sz, s0, s1⟩ := hx.later hbx
  replace hb := below_next hb hbx
  clear hbx hx
  go_wp2_with fail
  go_quiet (fail)
  go_wp2_with fail
  go_simp
  go_quiet (fail)
  go_wp2_with fail
  have hx : Boxes w.heap.size a b w3 := ⟨a0, a1, a2, b0, b1, b2, r0, r1, r2, f0, f1, f2, sz, s0, s1⟩
  refine (refNumber_any _ _).mono ?_
  rintro e w4 ⟨rfl, hbx⟩
  clear a0 a1 a2 b0 b1 b2 r0 r1 r2 f0 f1 f2 sz s0 s1
  replace hbx := below_next (w := w3) (below_q (w := w3) (by repeat (first | exact Below.refl _ _ | refine below_drewN ?_ _ | refine below_drew ?_))) hbx
  obtain ⟨a0, a1, a2, b0, b1, b2, r0, r1, r2, f0, f1, f2, sz, s0, s1⟩ := hx.later hbx
  replace hb := below_next hb hbx
  clear hbx hx
  go_wp2
  exact bodyPost_ret (v := .tuple #[.agg #[.int .i64 1, .int .i64 (wrap64 (P.tmod Q)), .int .u64 0], .int .i64 0]) (by simp [results, Try.results16, go_sem, r0, r1, r2]) rfl ⟨rfl, by repeat (first | exact hb | refine below_drewN ?_ _ | exact Below.refl _ _ | refine below_setB ?_ (by omega) _ _ | refine below_alloc ?_ _)⟩
theorem rb_rem10 (op : ByteArray) (a b : Val) (w : World) (o : Int) (HO : Hid (∀ W : World, Calls Try.prog 43 #[.agg #[.int .i64 a.t, .int .i64 a.n, .int .u64 a.b], .agg #[.int .i64 b.t, .int .i64 b.n, .int .u64 b.b]] W (Ret W (.int .i64 o)))) (h : a.good = true) (h2 : b.good = true) (h3 : (a.t != b.t) = false) (ho : op.toList = [37]) (g1 : decide (a.n < 0) = true) (g2 : decide (b.n < 0) = false) (P Q : Int) (U : Int) (eU : IntKind.u64.wrap a.n = U) (eP : IntKind.u64.wrap (-U) = P) (eV : IntKind.u64.wrap b.n = Q) (z0 : (Q == 0) = false) (y1 : ¬ Q = 0) (k3 : (a.t == 3) = false) (k2 : (a.t == 2) = false)  : Calls Try.prog 16 #[.string op, .agg #[.int .i64 a.t, .int .i64 a.n, .int .u64 a.b], .agg #[.int .i64 b.t, .int .i64 b.n, .int .u64 b.b]] w (Ret w (okR (intA (wrap64 (IntKind.u64.wrap (-(P.tmod Q))))))) := by
  have HA := Lib.hid h
  have HB := Lib.hid h2
  clear h h2
  go_enter Try.func16, Try.ntmps16
  go_wp2_with fail
  have hj := refForm_any a.t a.n a.b (((w.alloc (.cells #[.int .i64 a.t, .int .i64 a.n, .int .u64 a.b] 24)).alloc (.cells #[.int .i64 b.t, .int .i64 b.n, .int .u64 b.b] 24)).alloc (.cells #[.int .i64 0, .int .i64 0, .int .u64 0] 24))
  rw [show (Val.mk a.t a.n a.b).good = true from HA.out] at hj
  refine hj.mono ?_
  rintro e w1 ⟨rfl, hb⟩
  clear hj
  have hx := (boxes_new w a b 24).later hb
  replace hb := below_next (below_alloc (below_alloc (below_alloc (Below.refl w.heap.size w) _) _) _) hb
  obtain ⟨a0, a1, a2, b0, b1, b2, r0, r1, r2, f0, f1, f2, sz, s0, s1⟩ := hx
  go_wp2_with fail
  have hx : Boxes w.heap.size a b w1 := ⟨a0, a1, a2, b0, b1, b2, r0, r1, r2, f0, f1, f2, sz, s0, s1⟩
  have hj := refForm_any b.t b.n b.b w1
  rw [show (Val.mk b.t b.n b.b).good = true from HB.out] at hj
  refine hj.mono ?_
  rintro e w2 ⟨rfl, hbx⟩
  clear hj a0 a1 a2 b0 b1 b2 r0 r1 r2 f0 f1 f2 sz s0 s1
  obtain ⟨a0, a1, a2, b0, b1, b2, r0, r1, r2, f0, f1, f2, sz, s0, s1⟩ := hx.later hbx
  replace hb := below_next hb hbx
  clear hbx hx
  go_wp2_with fail
  have hx : Boxes w.heap.size a b w2 := ⟨a0, a1, a2, b0, b1, b2, r0, r1, r2, f0, f1, f2, sz, s0, s1⟩
  refine (HO.out _).mono ?_
  rintro e w3 ⟨rfl, hbx⟩
  clear a0 a1 a2 b0 b1 b2 r0 r1 r2 f0 f1 f2 sz s0 s1
  obtain ⟨a0, a1, a2, b0, b1, b2, r0, r1, r2, f0, f1, f2, sz, s0, s1⟩ := hx.later hbx
  replace hb := below_next hb hbx
  clear hbx hx
  go_wp2_with fail
  go_quiet (fail)
  go_wp2_with fail
  go_simp
  go_quiet (fail)
  go_wp2_with fail
  have hx : Boxes w.heap.size a b w3 := ⟨a0, a1, a2, b0, b1, b2, r0, r1, r2, f0, f1, f2, sz, s0, s1⟩
  refine (refNumber_any _ _).mono ?_
  rintro e w4 ⟨rfl, hbx⟩
  clear a0 a1 a2 b0 b1 b2 r0 r1 r2 f0 f1 f2 sz s0 s1
  replace hbx := below_next (w := w3) (below_q (w := w3) (by repeat (first | exact Below.refl _ _ | refine below_drewN ?_ _ | refine below_drew ?_))) hbx
  obtain ⟨a0, a1, a2, b0, b1, b2, r0, r1, r2, f0, f1, f2, sz, s0, s1⟩ := hx.later hbx
  replace hb := below_next hb hbx
  clear hbx hx
  go_wp2
  exact bodyPost_ret (v := .tuple #[.agg #[.int .i64 1, .int .i64 (wrap64 (IntKind.u64.wrap (-(P.tmod Q)))), .int .u64 0], .int .i64 0]) (by simp [results, Try.results16, go_sem, r0, r1, r2]) rfl ⟨rfl, by repeat (first | exact hb | refine below_drewN ?_ _ | exact Below.refl _ _ | refine below_setB ?_ (by omega) _ _ | refine below_alloc ?_ _)⟩
theorem rb_rem11 (op : ByteArray) (a b : Val) (w : World) (o : Int) (HO : Hid (∀ W : World, Calls Try.prog 43 #[.agg #[.int .i64 a.t, .int .i64 a.n, .int .u64 a.b], .agg #[.int .i64 b.t, .int .i64 b.n, .int .u64 b.b]] W (Ret W (.int .i64 o)))) (h : a.good = true) (h2 : b.good = true) (h3 : (a.t != b.t) = false) (ho : op.toList = [37]) (g1 : decide (a.n < 0) = true) (g2 : decide (b.n < 0) = true) (P Q : Int) (U : Int) (eU : IntKind.u64.wrap a.n = U) (eP : IntKind.u64.wrap (-U) = P) (V : Int) (eV : IntKind.u64.wrap b.n = V) (z0 : (V == 0) = false) (eQ : IntKind.u64.wrap (-V) = Q) (y1 : ¬ Q = 0) (k3 : (a.t == 3) = false) (k2 : (a.t == 2) = false)  : Calls Try.prog 16 #[.string op, .agg #[.int .i64 a.t, .int .i64 a.n, .int .u64 a.b], .agg #[.int .i64 b.t, .int .i64 b.n, .int .u64 b.b]] w (Ret w (okR (intA (wrap64 (IntKind.u64.wrap (-(P.tmod Q))))))) := by
  have HA := Lib.hid h
  have HB := Lib.hid h2
  clear h h2
  go_enter Try.func16, Try.ntmps16
  go_wp2_with fail
  have hj := refForm_any a.t a.n a.b (((w.alloc (.cells #[.int .i64 a.t, .int .i64 a.n, .int .u64 a.b] 24)).alloc (.cells #[.int .i64 b.t, .int .i64 b.n, .int .u64 b.b] 24)).alloc (.cells #[.int .i64 0, .int .i64 0, .int .u64 0] 24))
  rw [show (Val.mk a.t a.n a.b).good = true from HA.out] at hj
  refine hj.mono ?_
  rintro e w1 ⟨rfl, hb⟩
  clear hj
  have hx := (boxes_new w a b 24).later hb
  replace hb := below_next (below_alloc (below_alloc (below_alloc (Below.refl w.heap.size w) _) _) _) hb
  obtain ⟨a0, a1, a2, b0, b1, b2, r0, r1, r2, f0, f1, f2, sz, s0, s1⟩ := hx
  go_wp2_with fail
  have hx : Boxes w.heap.size a b w1 := ⟨a0, a1, a2, b0, b1, b2, r0, r1, r2, f0, f1, f2, sz, s0, s1⟩
  have hj := refForm_any b.t b.n b.b w1
  rw [show (Val.mk b.t b.n b.b).good = true from HB.out] at hj
  refine hj.mono ?_
  rintro e w2 ⟨rfl, hbx⟩
  clear hj a0 a1 a2 b0 b1 b2 r0 r1 r2 f0 f1 f2 sz s0 s1
  obtain ⟨a0, a1, a2, b0, b1, b2, r0, r1, r2, f0, f1, f2, sz, s0, s1⟩ := hx.later hbx
  replace hb := below_next hb hbx
  clear hbx hx
  go_wp2_with fail
  have hx : Boxes w.heap.size a b w2 := ⟨a0, a1, a2, b0, b1, b2, r0, r1, r2, f0, f1, f2, sz, s0, s1⟩
  refine (HO.out _).mono ?_
  rintro e w3 ⟨rfl, hbx⟩
  clear a0 a1 a2 b0 b1 b2 r0 r1 r2 f0 f1 f2 sz s0 s1
  obtain ⟨a0, a1, a2, b0, b1, b2, r0, r1, r2, f0, f1, f2, sz, s0, s1⟩ := hx.later hbx
  replace hb := below_next hb hbx
  clear hbx hx
  go_wp2_with fail
  go_quiet (fail)
  go_wp2_with fail
  go_simp
  go_quiet (fail)
  go_wp2_with fail
  have hx : Boxes w.heap.size a b w3 := ⟨a0, a1, a2, b0, b1, b2, r0, r1, r2, f0, f1, f2, sz, s0, s1⟩
  refine (refNumber_any _ _).mono ?_
  rintro e w4 ⟨rfl, hbx⟩
  clear a0 a1 a2 b0 b1 b2 r0 r1 r2 f0 f1 f2 sz s0 s1
  replace hbx := below_next (w := w3) (below_q (w := w3) (by repeat (first | exact Below.refl _ _ | refine below_drewN ?_ _ | refine below_drew ?_))) hbx
  obtain ⟨a0, a1, a2, b0, b1, b2, r0, r1, r2, f0, f1, f2, sz, s0, s1⟩ := hx.later hbx
  replace hb := below_next hb hbx
  clear hbx hx
  go_wp2
  exact bodyPost_ret (v := .tuple #[.agg #[.int .i64 1, .int .i64 (wrap64 (IntKind.u64.wrap (-(P.tmod Q)))), .int .u64 0], .int .i64 0]) (by simp [results, Try.results16, go_sem, r0, r1, r2]) rfl ⟨rfl, by repeat (first | exact hb | refine below_drewN ?_ _ | exact Below.refl _ _ | refine below_setB ?_ (by omega) _ _ | refine below_alloc ?_ _)⟩
end Go.Proofs.Ytdeabmijoaepcaa
