/-
  The walk of the document's Binary: bad kinds, comparisons, bools.
-/
import Derived.Test.YtdeabmijoaepcaaRef4
import Derived.Test.YtdeabmijoaepcaaVal5
namespace Go.Proofs.Ytdeabmijoaepcaa
open Go.RowKit Go.Stk
set_option maxHeartbeats 2000000
set_option maxRecDepth 100000

theorem rb_bad1 (op : ByteArray) (a b : Val) (w : World) (h : a.good = false) : Calls Try.prog 16 #[.string op, .agg #[.int .i64 a.t, .int .i64 a.n, .int .u64 a.b], .agg #[.int .i64 b.t, .int .i64 b.n, .int .u64 b.b]] w (Ret w (badR (-1))) := by
  have HA := Lib.hid h
  clear h
  go_enter Try.func16, Try.ntmps16
  go_wp2_with fail
  have hj := refForm_any a.t a.n a.b (((w.alloc (.cells #[.int .i64 a.t, .int .i64 a.n, .int .u64 a.b] 24)).alloc (.cells #[.int .i64 b.t, .int .i64 b.n, .int .u64 b.b] 24)).alloc (.cells #[.int .i64 0, .int .i64 0, .int .u64 0] 24))
  rw [show (Val.mk a.t a.n a.b).good = false from HA.out] at hj
  refine hj.mono ?_
  rintro e w1 ⟨rfl, hb⟩
  clear hj
  have hx := (boxes_new w a b 24).later hb
  replace hb := below_next (below_alloc (below_alloc (below_alloc (Below.refl w.heap.size w) _) _) _) hb
  obtain ⟨a0, a1, a2, b0, b1, b2, r0, r1, r2, f0, f1, f2, sz, s0, s1⟩ := hx
  go_wp2
  exact bodyPost_ret (v := .tuple #[.agg #[.int .i64 0, .int .i64 0, .int .u64 0], .int .i64 (-1)]) (by simp [results, Try.results16, go_sem, r0, r1, r2]) rfl ⟨rfl, by repeat (first | exact hb | exact Below.refl _ _ | refine below_setB ?_ (by omega) _ _ | refine below_alloc ?_ _)⟩
theorem rb_bad2 (op : ByteArray) (a b : Val) (w : World) (h : a.good = true) (h2 : b.good = false) : Calls Try.prog 16 #[.string op, .agg #[.int .i64 a.t, .int .i64 a.n, .int .u64 a.b], .agg #[.int .i64 b.t, .int .i64 b.n, .int .u64 b.b]] w (Ret w (badR (-1))) := by
  have HA := Lib.hid h
  have HB := Lib.hid h2
  clear h h2
  go_enter Try.func16, Try.ntmps16
  go_wp2_with fail
  have hj := refForm_any a.t a.n a.b (((w.alloc (.cells #[.int .i64 a.t, .int .i64 a.n, .int .u64 a.b] 24)).alloc (.cells #[.int .i64 b.t, .int .i64 b.n, .int .u64 b.b] 24)).alloc (.cells #[.int .i64 0, .int .i64 0, .int .u64 0] 24))
  rw [show (Val.mk a.t a.n a.b).good = true from HA.out] at hj
  refine hj.mono ?_
  rintro e w1 ⟨rfl, hb⟩
  clear hj
  have hx := (boxes_new w a b 24).later hb
  replace hb := below_next (below_alloc (below_alloc (below_alloc (Below.refl w.heap.size w) _) _) _) hb
  obtain ⟨a0, a1, a2, b0, b1, b2, r0, r1, r2, f0, f1, f2, sz, s0, s1⟩ := hx
  go_wp2_with fail
  have hx : Boxes w.heap.size a b w1 := ⟨a0, a1, a2, b0, b1, b2, r0, r1, r2, f0, f1, f2, sz, s0, s1⟩
  have hj := refForm_any b.t b.n b.b w1
  rw [show (Val.mk b.t b.n b.b).good = false from HB.out] at hj
  refine hj.mono ?_
  rintro e w2 ⟨rfl, hbx⟩
  clear hj a0 a1 a2 b0 b1 b2 r0 r1 r2 f0 f1 f2 sz s0 s1
  obtain ⟨a0, a1, a2, b0, b1, b2, r0, r1, r2, f0, f1, f2, sz, s0, s1⟩ := hx.later hbx
  replace hb := below_next hb hbx
  clear hbx hx
  go_wp2
  exact bodyPost_ret (v := .tuple #[.agg #[.int .i64 0, .int .i64 0, .int .u64 0], .int .i64 (-1)]) (by simp [results, Try.results16, go_sem, r0, r1, r2]) rfl ⟨rfl, by repeat (first | exact hb | exact Below.refl _ _ | refine below_setB ?_ (by omega) _ _ | refine below_alloc ?_ _)⟩
theorem rb_bad3 (op : ByteArray) (a b : Val) (w : World) (h : a.good = true) (h2 : b.good = true) (h3 : (a.t != b.t) = true) : Calls Try.prog 16 #[.string op, .agg #[.int .i64 a.t, .int .i64 a.n, .int .u64 a.b], .agg #[.int .i64 b.t, .int .i64 b.n, .int .u64 b.b]] w (Ret w (badR (-1))) := by
  have HA := Lib.hid h
  have HB := Lib.hid h2
  clear h h2
  go_enter Try.func16, Try.ntmps16
  go_wp2_with fail
  have hj := refForm_any a.t a.n a.b (((w.alloc (.cells #[.int .i64 a.t, .int .i64 a.n, .int .u64 a.b] 24)).alloc (.cells #[.int .i64 b.t, .int .i64 b.n, .int .u64 b.b] 24)).alloc (.cells #[.int .i64 0, .int .i64 0, .int .u64 0] 24))
  rw [show (Val.mk a.t a.n a.b).good = true from HA.out] at hj
  refine hj.mono ?_
  rintro e w1 ⟨rfl, hb⟩
  clear hj
  have hx := (boxes_new w a b 24).later hb
  replace hb := below_next (below_alloc (below_alloc (below_alloc (Below.refl w.heap.size w) _) _) _) hb
  obtain ⟨a0, a1, a2, b0, b1, b2, r0, r1, r2, f0, f1, f2, sz, s0, s1⟩ := hx
  go_wp2_with fail
  have hx : Boxes w.heap.size a b w1 := ⟨a0, a1, a2, b0, b1, b2, r0, r1, r2, f0, f1, f2, sz, s0, s1⟩
  have hj := refForm_any b.t b.n b.b w1
  rw [show (Val.mk b.t b.n b.b).good = true from HB.out] at hj
  refine hj.mono ?_
  rintro e w2 ⟨rfl, hbx⟩
  clear hj a0 a1 a2 b0 b1 b2 r0 r1 r2 f0 f1 f2 sz s0 s1
  obtain ⟨a0, a1, a2, b0, b1, b2, r0, r1, r2, f0, f1, f2, sz, s0, s1⟩ := hx.later hbx
  replace hb := below_next hb hbx
  clear hbx hx
  go_wp2
  exact bodyPost_ret (v := .tuple #[.agg #[.int .i64 0, .int .i64 0, .int .u64 0], .int .i64 (-1)]) (by simp [results, Try.results16, go_sem, r0, r1, r2]) rfl ⟨rfl, by repeat (first | exact hb | exact Below.refl _ _ | refine below_setB ?_ (by omega) _ _ | refine below_alloc ?_ _)⟩

theorem rb_eq (op : ByteArray) (a b : Val) (w : World) (o : Int) (HO : Hid (∀ W : World, Calls Try.prog 43 #[.agg #[.int .i64 a.t, .int .i64 a.n, .int .u64 a.b], .agg #[.int .i64 b.t, .int .i64 b.n, .int .u64 b.b]] W (Ret W (.int .i64 o)))) (h : a.good = true) (h2 : b.good = true) (h3 : (a.t != b.t) = false) (ho : op.toList = [61, 61]) : Calls Try.prog 16 #[.string op, .agg #[.int .i64 a.t, .int .i64 a.n, .int .u64 a.b], .agg #[.int .i64 b.t, .int .i64 b.n, .int .u64 b.b]] w (Ret w (okR (boolA (o == 0)))) := by
  have HA := Lib.hid h
  have HB := Lib.hid h2
  clear h h2
  go_enter Try.func16, Try.ntmps16
  go_wp2_with fail
  have hj := refForm_any a.t a.n a.b (((w.alloc (.cells #[.int .i64 a.t, .int .i64 a.n, .int .u64 a.b] 24)).alloc (.cells #[.int .i64 b.t, .int .i64 b.n, .int .u64 b.b] 24)).alloc (.cells #[.int .i64 0, .int .i64 0, .int .u64 0] 24))
  rw [show (Val.mk a.t a.n a.b).good = true from HA.out] at hj
  refine hj.mono ?_
  rintro e w1 ⟨rfl, hb⟩
  clear hj
  have hx := (boxes_new w a b 24).later hb
  replace hb := below_next (below_alloc (below_alloc (below_alloc (Below.refl w.heap.size w) _) _) _) hb
  obtain ⟨a0, a1, a2, b0, b1, b2, r0, r1, r2, f0, f1, f2, sz, s0, s1⟩ := hx
  go_wp2_with fail
  have hx : Boxes w.heap.size a b w1 := ⟨a0, a1, a2, b0, b1, b2, r0, r1, r2, f0, f1, f2, sz, s0, s1⟩
  have hj := refForm_any b.t b.n b.b w1
  rw [show (Val.mk b.t b.n b.b).good = true from HB.out] at hj
  refine hj.mono ?_
  rintro e w2 ⟨rfl, hbx⟩
  clear hj a0 a1 a2 b0 b1 b2 r0 r1 r2 f0 f1 f2 sz s0 s1
  obtain ⟨a0, a1, a2, b0, b1, b2, r0, r1, r2, f0, f1, f2, sz, s0, s1⟩ := hx.later hbx
  replace hb := below_next hb hbx
  clear hbx hx
  go_wp2_with fail
  have hx : Boxes w.heap.size a b w2 := ⟨a0, a1, a2, b0, b1, b2, r0, r1, r2, f0, f1, f2, sz, s0, s1⟩
  refine (HO.out _).mono ?_
  rintro e w3 ⟨rfl, hbx⟩
  clear a0 a1 a2 b0 b1 b2 r0 r1 r2 f0 f1 f2 sz s0 s1
  obtain ⟨a0, a1, a2, b0, b1, b2, r0, r1, r2, f0, f1, f2, sz, s0, s1⟩ := hx.later hbx
  replace hb := below_next hb hbx
  clear hbx hx
  go_wp2_with fail
  have hx : Boxes w.heap.size a b w3 := ⟨a0, a1, a2, b0, b1, b2, r0, r1, r2, f0, f1, f2, sz, s0, s1⟩
  refine (refTruth_any (o == 0) _).mono ?_
  rintro e w4 ⟨rfl, hbx⟩
  clear a0 a1 a2 b0 b1 b2 r0 r1 r2 f0 f1 f2 sz s0 s1
  obtain ⟨a0, a1, a2, b0, b1, b2, r0, r1, r2, f0, f1, f2, sz, s0, s1⟩ := hx.later hbx
  replace hb := below_next hb hbx
  clear hbx hx
  go_wp2
  exact bodyPost_ret (v := .tuple #[.agg #[.int .i64 3, .int .i64 (b2i (o == 0)), .int .u64 0], .int .i64 0]) (by simp [results, Try.results16, go_sem, r0, r1, r2]) rfl ⟨rfl, by repeat (first | exact hb | exact Below.refl _ _ | refine below_setB ?_ (by omega) _ _ | refine below_alloc ?_ _)⟩
theorem rb_ne (op : ByteArray) (a b : Val) (w : World) (o : Int) (HO : Hid (∀ W : World, Calls Try.prog 43 #[.agg #[.int .i64 a.t, .int .i64 a.n, .int .u64 a.b], .agg #[.int .i64 b.t, .int .i64 b.n, .int .u64 b.b]] W (Ret W (.int .i64 o)))) (h : a.good = true) (h2 : b.good = true) (h3 : (a.t != b.t) = false) (ho : op.toList = [33, 61]) : Calls Try.prog 16 #[.string op, .agg #[.int .i64 a.t, .int .i64 a.n, .int .u64 a.b], .agg #[.int .i64 b.t, .int .i64 b.n, .int .u64 b.b]] w (Ret w (okR (boolA (o != 0)))) := by
  have HA := Lib.hid h
  have HB := Lib.hid h2
  clear h h2
  go_enter Try.func16, Try.ntmps16
  go_wp2_with fail
  have hj := refForm_any a.t a.n a.b (((w.alloc (.cells #[.int .i64 a.t, .int .i64 a.n, .int .u64 a.b] 24)).alloc (.cells #[.int .i64 b.t, .int .i64 b.n, .int .u64 b.b] 24)).alloc (.cells #[.int .i64 0, .int .i64 0, .int .u64 0] 24))
  rw [show (Val.mk a.t a.n a.b).good = true from HA.out] at hj
  refine hj.mono ?_
  rintro e w1 ⟨rfl, hb⟩
  clear hj
  have hx := (boxes_new w a b 24).later hb
  replace hb := below_next (below_alloc (below_alloc (below_alloc (Below.refl w.heap.size w) _) _) _) hb
  obtain ⟨a0, a1, a2, b0, b1, b2, r0, r1, r2, f0, f1, f2, sz, s0, s1⟩ := hx
  go_wp2_with fail
  have hx : Boxes w.heap.size a b w1 := ⟨a0, a1, a2, b0, b1, b2, r0, r1, r2, f0, f1, f2, sz, s0, s1⟩
  have hj := refForm_any b.t b.n b.b w1
  rw [show (Val.mk b.t b.n b.b).good = true from HB.out] at hj
  refine hj.mono ?_
  rintro e w2 ⟨rfl, hbx⟩
  clear hj a0 a1 a2 b0 b1 b2 r0 r1 r2 f0 f1 f2 sz s0 s1
  obtain ⟨a0, a1, a2, b0, b1, b2, r0, r1, r2, f0, f1, f2, sz, s0, s1⟩ := hx.later hbx
  replace hb := below_next hb hbx
  clear hbx hx
  go_wp2_with fail
  have hx : Boxes w.heap.size a b w2 := ⟨a0, a1, a2, b0, b1, b2, r0, r1, r2, f0, f1, f2, sz, s0, s1⟩
  refine (HO.out _).mono ?_
  rintro e w3 ⟨rfl, hbx⟩
  clear a0 a1 a2 b0 b1 b2 r0 r1 r2 f0 f1 f2 sz s0 s1
  obtain ⟨a0, a1, a2, b0, b1, b2, r0, r1, r2, f0, f1, f2, sz, s0, s1⟩ := hx.later hbx
  replace hb := below_next hb hbx
  clear hbx hx
  go_wp2_with fail
  have hx : Boxes w.heap.size a b w3 := ⟨a0, a1, a2, b0, b1, b2, r0, r1, r2, f0, f1, f2, sz, s0, s1⟩
  refine (refTruth_any (o != 0) _).mono ?_
  rintro e w4 ⟨rfl, hbx⟩
  clear a0 a1 a2 b0 b1 b2 r0 r1 r2 f0 f1 f2 sz s0 s1
  obtain ⟨a0, a1, a2, b0, b1, b2, r0, r1, r2, f0, f1, f2, sz, s0, s1⟩ := hx.later hbx
  replace hb := below_next hb hbx
  clear hbx hx
  go_wp2
  exact bodyPost_ret (v := .tuple #[.agg #[.int .i64 3, .int .i64 (b2i (o != 0)), .int .u64 0], .int .i64 0]) (by simp [results, Try.results16, go_sem, r0, r1, r2]) rfl ⟨rfl, by repeat (first | exact hb | exact Below.refl _ _ | refine below_setB ?_ (by omega) _ _ | refine below_alloc ?_ _)⟩
theorem rb_and (op : ByteArray) (a b : Val) (w : World) (o : Int) (HO : Hid (∀ W : World, Calls Try.prog 43 #[.agg #[.int .i64 a.t, .int .i64 a.n, .int .u64 a.b], .agg #[.int .i64 b.t, .int .i64 b.n, .int .u64 b.b]] W (Ret W (.int .i64 o)))) (h : a.good = true) (h2 : b.good = true) (h3 : (a.t != b.t) = false) (ho : op.toList = [38, 38]) (k3 : (a.t == 3) = true)  : Calls Try.prog 16 #[.string op, .agg #[.int .i64 a.t, .int .i64 a.n, .int .u64 a.b], .agg #[.int .i64 b.t, .int .i64 b.n, .int .u64 b.b]] w (Ret w (okR (boolA (wrap64 (a.n + b.n) == 2)))) := by
  have HA := Lib.hid h
  have HB := Lib.hid h2
  clear h h2
  go_enter Try.func16, Try.ntmps16
  go_wp2_with fail
  have hj := refForm_any a.t a.n a.b (((w.alloc (.cells #[.int .i64 a.t, .int .i64 a.n, .int .u64 a.b] 24)).alloc (.cells #[.int .i64 b.t, .int .i64 b.n, .int .u64 b.b] 24)).alloc (.cells #[.int .i64 0, .int .i64 0, .int .u64 0] 24))
  rw [show (Val.mk a.t a.n a.b).good = true from HA.out] at hj
  refine hj.mono ?_
  rintro e w1 ⟨rfl, hb⟩
  clear hj
  have hx := (boxes_new w a b 24).later hb
  replace hb := below_next (below_alloc (below_alloc (below_alloc (Below.refl w.heap.size w) _) _) _) hb
  obtain ⟨a0, a1, a2, b0, b1, b2, r0, r1, r2, f0, f1, f2, sz, s0, s1⟩ := hx
  go_wp2_with fail
  have hx : Boxes w.heap.size a b w1 := ⟨a0, a1, a2, b0, b1, b2, r0, r1, r2, f0, f1, f2, sz, s0, s1⟩
  have hj := refForm_any b.t b.n b.b w1
  rw [show (Val.mk b.t b.n b.b).good = true from HB.out] at hj
  refine hj.mono ?_
  rintro e w2 ⟨rfl, hbx⟩
  clear hj a0 a1 a2 b0 b1 b2 r0 r1 r2 f0 f1 f2 sz s0 s1
  obtain ⟨a0, a1, a2, b0, b1, b2, r0, r1, r2, f0, f1, f2, sz, s0, s1⟩ := hx.later hbx
  replace hb := below_next hb hbx
  clear hbx hx
  go_wp2_with fail
  have hx : Boxes w.heap.size a b w2 := ⟨a0, a1, a2, b0, b1, b2, r0, r1, r2, f0, f1, f2, sz, s0, s1⟩
  refine (HO.out _).mono ?_
  rintro e w3 ⟨rfl, hbx⟩
  clear a0 a1 a2 b0 b1 b2 r0 r1 r2 f0 f1 f2 sz s0 s1
  obtain ⟨a0, a1, a2, b0, b1, b2, r0, r1, r2, f0, f1, f2, sz, s0, s1⟩ := hx.later hbx
  replace hb := below_next hb hbx
  clear hbx hx
  go_wp2_with fail
  have hx : Boxes w.heap.size a b w3 := ⟨a0, a1, a2, b0, b1, b2, r0, r1, r2, f0, f1, f2, sz, s0, s1⟩
  refine (refTruth_any (wrap64 (a.n + b.n) == 2) _).mono ?_
  rintro e w4 ⟨rfl, hbx⟩
  clear a0 a1 a2 b0 b1 b2 r0 r1 r2 f0 f1 f2 sz s0 s1
  obtain ⟨a0, a1, a2, b0, b1, b2, r0, r1, r2, f0, f1, f2, sz, s0, s1⟩ := hx.later hbx
  replace hb := below_next hb hbx
  clear hbx hx
  go_wp2
  exact bodyPost_ret (v := .tuple #[.agg #[.int .i64 3, .int .i64 (b2i (wrap64 (a.n + b.n) == 2)), .int .u64 0], .int .i64 0]) (by simp [results, Try.results16, go_sem, r0, r1, r2]) rfl ⟨rfl, by repeat (first | exact hb | exact Below.refl _ _ | refine below_setB ?_ (by omega) _ _ | refine below_alloc ?_ _)⟩
theorem rb_or (op : ByteArray) (a b : Val) (w : World) (o : Int) (HO : Hid (∀ W : World, Calls Try.prog 43 #[.agg #[.int .i64 a.t, .int .i64 a.n, .int .u64 a.b], .agg #[.int .i64 b.t, .int .i64 b.n, .int .u64 b.b]] W (Ret W (.int .i64 o)))) (h : a.good = true) (h2 : b.good = true) (h3 : (a.t != b.t) = false) (ho : op.toList = [124, 124]) (k3 : (a.t == 3) = true)  : Calls Try.prog 16 #[.string op, .agg #[.int .i64 a.t, .int .i64 a.n, .int .u64 a.b], .agg #[.int .i64 b.t, .int .i64 b.n, .int .u64 b.b]] w (Ret w (okR (boolA (decide (0 < wrap64 (a.n + b.n)))))) := by
  have HA := Lib.hid h
  have HB := Lib.hid h2
  clear h h2
  go_enter Try.func16, Try.ntmps16
  go_wp2_with fail
  have hj := refForm_any a.t a.n a.b (((w.alloc (.cells #[.int .i64 a.t, .int .i64 a.n, .int .u64 a.b] 24)).alloc (.cells #[.int .i64 b.t, .int .i64 b.n, .int .u64 b.b] 24)).alloc (.cells #[.int .i64 0, .int .i64 0, .int .u64 0] 24))
  rw [show (Val.mk a.t a.n a.b).good = true from HA.out] at hj
  refine hj.mono ?_
  rintro e w1 ⟨rfl, hb⟩
  clear hj
  have hx := (boxes_new w a b 24).later hb
  replace hb := below_next (below_alloc (below_alloc (below_alloc (Below.refl w.heap.size w) _) _) _) hb
  obtain ⟨a0, a1, a2, b0, b1, b2, r0, r1, r2, f0, f1, f2, sz, s0, s1⟩ := hx
  go_wp2_with fail
  have hx : Boxes w.heap.size a b w1 := ⟨a0, a1, a2, b0, b1, b2, r0, r1, r2, f0, f1, f2, sz, s0, s1⟩
  have hj := refForm_any b.t b.n b.b w1
  rw [show (Val.mk b.t b.n b.b).good = true from HB.out] at hj
  refine hj.mono ?_
  rintro e w2 ⟨rfl, hbx⟩
  clear hj a0 a1 a2 b0 b1 b2 r0 r1 r2 f0 f1 f2 sz s0 s1
  obtain ⟨a0, a1, a2, b0, b1, b2, r0, r1, r2, f0, f1, f2, sz, s0, s1⟩ := hx.later hbx
  replace hb := below_next hb hbx
  clear hbx hx
  go_wp2_with fail
  have hx : Boxes w.heap.size a b w2 := ⟨a0, a1, a2, b0, b1, b2, r0, r1, r2, f0, f1, f2, sz, s0, s1⟩
  refine (HO.out _).mono ?_
  rintro e w3 ⟨rfl, hbx⟩
  clear a0 a1 a2 b0 b1 b2 r0 r1 r2 f0 f1 f2 sz s0 s1
  obtain ⟨a0, a1, a2, b0, b1, b2, r0, r1, r2, f0, f1, f2, sz, s0, s1⟩ := hx.later hbx
  replace hb := below_next hb hbx
  clear hbx hx
  go_wp2_with fail
  have hx : Boxes w.heap.size a b w3 := ⟨a0, a1, a2, b0, b1, b2, r0, r1, r2, f0, f1, f2, sz, s0, s1⟩
  refine (refTruth_any (decide (0 < wrap64 (a.n + b.n))) _).mono ?_
  rintro e w4 ⟨rfl, hbx⟩
  clear a0 a1 a2 b0 b1 b2 r0 r1 r2 f0 f1 f2 sz s0 s1
  obtain ⟨a0, a1, a2, b0, b1, b2, r0, r1, r2, f0, f1, f2, sz, s0, s1⟩ := hx.later hbx
  replace hb := below_next hb hbx
  clear hbx hx
  go_wp2
  exact bodyPost_ret (v := .tuple #[.agg #[.int .i64 3, .int .i64 (b2i (decide (0 < wrap64 (a.n + b.n)))), .int .u64 0], .int .i64 0]) (by simp [results, Try.results16, go_sem, r0, r1, r2]) rfl ⟨rfl, by repeat (first | exact hb | exact Below.refl _ _ | refine below_setB ?_ (by omega) _ _ | refine below_alloc ?_ _)⟩
theorem rb_bool_none (op : ByteArray) (a b : Val) (w : World) (o : Int) (HO : Hid (∀ W : World, Calls Try.prog 43 #[.agg #[.int .i64 a.t, .int .i64 a.n, .int .u64 a.b], .agg #[.int .i64 b.t, .int .i64 b.n, .int .u64 b.b]] W (Ret W (.int .i64 o)))) (h : a.good = true) (h2 : b.good = true) (h3 : (a.t != b.t) = false) (e1 : (op.toList == [61, 61]) = false) (e2 : (op.toList == [33, 61]) = false) (e3 : (op.toList == [38, 38]) = false) (e4 : (op.toList == [124, 124]) = false) (k3 : (a.t == 3) = true)  : Calls Try.prog 16 #[.string op, .agg #[.int .i64 a.t, .int .i64 a.n, .int .u64 a.b], .agg #[.int .i64 b.t, .int .i64 b.n, .int .u64 b.b]] w (Ret w (badR (-1))) := by
  have HA := Lib.hid h
  have HB := Lib.hid h2
  clear h h2
  go_enter Try.func16, Try.ntmps16
  go_wp2_with fail
  have hj := refForm_any a.t a.n a.b (((w.alloc (.cells #[.int .i64 a.t, .int .i64 a.n, .int .u64 a.b] 24)).alloc (.cells #[.int .i64 b.t, .int .i64 b.n, .int .u64 b.b] 24)).alloc (.cells #[.int .i64 0, .int .i64 0, .int .u64 0] 24))
  rw [show (Val.mk a.t a.n a.b).good = true from HA.out] at hj
  refine hj.mono ?_
  rintro e w1 ⟨rfl, hb⟩
  clear hj
  have hx := (boxes_new w a b 24).later hb
  replace hb := below_next (below_alloc (below_alloc (below_alloc (Below.refl w.heap.size w) _) _) _) hb
  obtain ⟨a0, a1, a2, b0, b1, b2, r0, r1, r2, f0, f1, f2, sz, s0, s1⟩ := hx
  go_wp2_with fail
  have hx : Boxes w.heap.size a b w1 := ⟨a0, a1, a2, b0, b1, b2, r0, r1, r2, f0, f1, f2, sz, s0, s1⟩
  have hj := refForm_any b.t b.n b.b w1
  rw [show (Val.mk b.t b.n b.b).good = true from HB.out] at hj
  refine hj.mono ?_
  rintro e w2 ⟨rfl, hbx⟩
  clear hj a0 a1 a2 b0 b1 b2 r0 r1 r2 f0 f1 f2 sz s0 s1
  obtain ⟨a0, a1, a2, b0, b1, b2, r0, r1, r2, f0, f1, f2, sz, s0, s1⟩ := hx.later hbx
  replace hb := below_next hb hbx
  clear hbx hx
  go_wp2_with fail
  have hx : Boxes w.heap.size a b w2 := ⟨a0, a1, a2, b0, b1, b2, r0, r1, r2, f0, f1, f2, sz, s0, s1⟩
  refine (HO.out _).mono ?_
  rintro e w3 ⟨rfl, hbx⟩
  clear a0 a1 a2 b0 b1 b2 r0 r1 r2 f0 f1 f2 sz s0 s1
  obtain ⟨a0, a1, a2, b0, b1, b2, r0, r1, r2, f0, f1, f2, sz, s0, s1⟩ := hx.later hbx
  replace hb := below_next hb hbx
  clear hbx hx
  go_wp2
  exact bodyPost_ret (v := .tuple #[.agg #[.int .i64 0, .int .i64 0, .int .u64 0], .int .i64 (-1)]) (by simp [results, Try.results16, go_sem, r0, r1, r2]) rfl ⟨rfl, by repeat (first | exact hb | exact Below.refl _ _ | refine below_setB ?_ (by omega) _ _ | refine below_alloc ?_ _)⟩
theorem rb_lt (op : ByteArray) (a b : Val) (w : World) (o : Int) (HO : Hid (∀ W : World, Calls Try.prog 43 #[.agg #[.int .i64 a.t, .int .i64 a.n, .int .u64 a.b], .agg #[.int .i64 b.t, .int .i64 b.n, .int .u64 b.b]] W (Ret W (.int .i64 o)))) (h : a.good = true) (h2 : b.good = true) (h3 : (a.t != b.t) = false) (ho : op.toList = [60]) (k3 : (a.t == 3) = false)  : Calls Try.prog 16 #[.string op, .agg #[.int .i64 a.t, .int .i64 a.n, .int .u64 a.b], .agg #[.int .i64 b.t, .int .i64 b.n, .int .u64 b.b]] w (Ret w (okR (boolA (o == -1)))) := by
  have HA := Lib.hid h
  have HB := Lib.hid h2
  clear h h2
  go_enter Try.func16, Try.ntmps16
  go_wp2_with fail
  have hj := refForm_any a.t a.n a.b (((w.alloc (.cells #[.int .i64 a.t, .int .i64 a.n, .int .u64 a.b] 24)).alloc (.cells #[.int .i64 b.t, .int .i64 b.n, .int .u64 b.b] 24)).alloc (.cells #[.int .i64 0, .int .i64 0, .int .u64 0] 24))
  rw [show (Val.mk a.t a.n a.b).good = true from HA.out] at hj
  refine hj.mono ?_
  rintro e w1 ⟨rfl, hb⟩
  clear hj
  have hx := (boxes_new w a b 24).later hb
  replace hb := below_next (below_alloc (below_alloc (below_alloc (Below.refl w.heap.size w) _) _) _) hb
  obtain ⟨a0, a1, a2, b0, b1, b2, r0, r1, r2, f0, f1, f2, sz, s0, s1⟩ := hx
  go_wp2_with fail
  have hx : Boxes w.heap.size a b w1 := ⟨a0, a1, a2, b0, b1, b2, r0, r1, r2, f0, f1, f2, sz, s0, s1⟩
  have hj := refForm_any b.t b.n b.b w1
  rw [show (Val.mk b.t b.n b.b).good = true from HB.out] at hj
  refine hj.mono ?_
  rintro e w2 ⟨rfl, hbx⟩
  clear hj a0 a1 a2 b0 b1 b2 r0 r1 r2 f0 f1 f2 sz s0 s1
  obtain ⟨a0, a1, a2, b0, b1, b2, r0, r1, r2, f0, f1, f2, sz, s0, s1⟩ := hx.later hbx
  replace hb := below_next hb hbx
  clear hbx hx
  go_wp2_with fail
  have hx : Boxes w.heap.size a b w2 := ⟨a0, a1, a2, b0, b1, b2, r0, r1, r2, f0, f1, f2, sz, s0, s1⟩
  refine (HO.out _).mono ?_
  rintro e w3 ⟨rfl, hbx⟩
  clear a0 a1 a2 b0 b1 b2 r0 r1 r2 f0 f1 f2 sz s0 s1
  obtain ⟨a0, a1, a2, b0, b1, b2, r0, r1, r2, f0, f1, f2, sz, s0, s1⟩ := hx.later hbx
  replace hb := below_next hb hbx
  clear hbx hx
  go_wp2_with fail
  have hx : Boxes w.heap.size a b w3 := ⟨a0, a1, a2, b0, b1, b2, r0, r1, r2, f0, f1, f2, sz, s0, s1⟩
  refine (refTruth_any (o == -1) _).mono ?_
  rintro e w4 ⟨rfl, hbx⟩
  clear a0 a1 a2 b0 b1 b2 r0 r1 r2 f0 f1 f2 sz s0 s1
  obtain ⟨a0, a1, a2, b0, b1, b2, r0, r1, r2, f0, f1, f2, sz, s0, s1⟩ := hx.later hbx
  replace hb := below_next hb hbx
  clear hbx hx
  go_wp2
  exact bodyPost_ret (v := .tuple #[.agg #[.int .i64 3, .int .i64 (b2i (o == -1)), .int .u64 0], .int .i64 0]) (by simp [results, Try.results16, go_sem, r0, r1, r2]) rfl ⟨rfl, by repeat (first | exact hb | exact Below.refl _ _ | refine below_setB ?_ (by omega) _ _ | refine below_alloc ?_ _)⟩
theorem rb_gt (op : ByteArray) (a b : Val) (w : World) (o : Int) (HO : Hid (∀ W : World, Calls Try.prog 43 #[.agg #[.int .i64 a.t, .int .i64 a.n, .int .u64 a.b], .agg #[.int .i64 b.t, .int .i64 b.n, .int .u64 b.b]] W (Ret W (.int .i64 o)))) (h : a.good = true) (h2 : b.good = true) (h3 : (a.t != b.t) = false) (ho : op.toList = [62]) (k3 : (a.t == 3) = false)  : Calls Try.prog 16 #[.string op, .agg #[.int .i64 a.t, .int .i64 a.n, .int .u64 a.b], .agg #[.int .i64 b.t, .int .i64 b.n, .int .u64 b.b]] w (Ret w (okR (boolA (o == 1)))) := by
  have HA := Lib.hid h
  have HB := Lib.hid h2
  clear h h2
  go_enter Try.func16, Try.ntmps16
  go_wp2_with fail
  have hj := refForm_any a.t a.n a.b (((w.alloc (.cells #[.int .i64 a.t, .int .i64 a.n, .int .u64 a.b] 24)).alloc (.cells #[.int .i64 b.t, .int .i64 b.n, .int .u64 b.b] 24)).alloc (.cells #[.int .i64 0, .int .i64 0, .int .u64 0] 24))
  rw [show (Val.mk a.t a.n a.b).good = true from HA.out] at hj
  refine hj.mono ?_
  rintro e w1 ⟨rfl, hb⟩
  clear hj
  have hx := (boxes_new w a b 24).later hb
  replace hb := below_next (below_alloc (below_alloc (below_alloc (Below.refl w.heap.size w) _) _) _) hb
  obtain ⟨a0, a1, a2, b0, b1, b2, r0, r1, r2, f0, f1, f2, sz, s0, s1⟩ := hx
  go_wp2_with fail
  have hx : Boxes w.heap.size a b w1 := ⟨a0, a1, a2, b0, b1, b2, r0, r1, r2, f0, f1, f2, sz, s0, s1⟩
  have hj := refForm_any b.t b.n b.b w1
  rw [show (Val.mk b.t b.n b.b).good = true from HB.out] at hj
  refine hj.mono ?_
  rintro e w2 ⟨rfl, hbx⟩
  clear hj a0 a1 a2 b0 b1 b2 r0 r1 r2 f0 f1 f2 sz s0 s1
  obtain ⟨a0, a1, a2, b0, b1, b2, r0, r1, r2, f0, f1, f2, sz, s0, s1⟩ := hx.later hbx
  replace hb := below_next hb hbx
  clear hbx hx
  go_wp2_with fail
  have hx : Boxes w.heap.size a b w2 := ⟨a0, a1, a2, b0, b1, b2, r0, r1, r2, f0, f1, f2, sz, s0, s1⟩
  refine (HO.out _).mono ?_
  rintro e w3 ⟨rfl, hbx⟩
  clear a0 a1 a2 b0 b1 b2 r0 r1 r2 f0 f1 f2 sz s0 s1
  obtain ⟨a0, a1, a2, b0, b1, b2, r0, r1, r2, f0, f1, f2, sz, s0, s1⟩ := hx.later hbx
  replace hb := below_next hb hbx
  clear hbx hx
  go_wp2_with fail
  have hx : Boxes w.heap.size a b w3 := ⟨a0, a1, a2, b0, b1, b2, r0, r1, r2, f0, f1, f2, sz, s0, s1⟩
  refine (refTruth_any (o == 1) _).mono ?_
  rintro e w4 ⟨rfl, hbx⟩
  clear a0 a1 a2 b0 b1 b2 r0 r1 r2 f0 f1 f2 sz s0 s1
  obtain ⟨a0, a1, a2, b0, b1, b2, r0, r1, r2, f0, f1, f2, sz, s0, s1⟩ := hx.later hbx
  replace hb := below_next hb hbx
  clear hbx hx
  go_wp2
  exact bodyPost_ret (v := .tuple #[.agg #[.int .i64 3, .int .i64 (b2i (o == 1)), .int .u64 0], .int .i64 0]) (by simp [results, Try.results16, go_sem, r0, r1, r2]) rfl ⟨rfl, by repeat (first | exact hb | exact Below.refl _ _ | refine below_setB ?_ (by omega) _ _ | refine below_alloc ?_ _)⟩
theorem rb_le1 (op : ByteArray) (a b : Val) (w : World) (o : Int) (HO : Hid (∀ W : World, Calls Try.prog 43 #[.agg #[.int .i64 a.t, .int .i64 a.n, .int .u64 a.b], .agg #[.int .i64 b.t, .int .i64 b.n, .int .u64 b.b]] W (Ret W (.int .i64 o)))) (h : a.good = true) (h2 : b.good = true) (h3 : (a.t != b.t) = false) (ho : op.toList = [60, 61]) (hc : (o == -1) = true) (k3 : (a.t == 3) = false)  : Calls Try.prog 16 #[.string op, .agg #[.int .i64 a.t, .int .i64 a.n, .int .u64 a.b], .agg #[.int .i64 b.t, .int .i64 b.n, .int .u64 b.b]] w (Ret w (okR (boolA (true)))) := by
  have HA := Lib.hid h
  have HB := Lib.hid h2
  clear h h2
  go_enter Try.func16, Try.ntmps16
  go_wp2_with fail
  have hj := refForm_any a.t a.n a.b (((w.alloc (.cells #[.int .i64 a.t, .int .i64 a.n, .int .u64 a.b] 24)).alloc (.cells #[.int .i64 b.t, .int .i64 b.n, .int .u64 b.b] 24)).alloc (.cells #[.int .i64 0, .int .i64 0, .int .u64 0] 24))
  rw [show (Val.mk a.t a.n a.b).good = true from HA.out] at hj
  refine hj.mono ?_
  rintro e w1 ⟨rfl, hb⟩
  clear hj
  have hx := (boxes_new w a b 24).later hb
  replace hb := below_next (below_alloc (below_alloc (below_alloc (Below.refl w.heap.size w) _) _) _) hb
  obtain ⟨a0, a1, a2, b0, b1, b2, r0, r1, r2, f0, f1, f2, sz, s0, s1⟩ := hx
  go_wp2_with fail
  have hx : Boxes w.heap.size a b w1 := ⟨a0, a1, a2, b0, b1, b2, r0, r1, r2, f0, f1, f2, sz, s0, s1⟩
  have hj := refForm_any b.t b.n b.b w1
  rw [show (Val.mk b.t b.n b.b).good = true from HB.out] at hj
  refine hj.mono ?_
  rintro e w2 ⟨rfl, hbx⟩
  clear hj a0 a1 a2 b0 b1 b2 r0 r1 r2 f0 f1 f2 sz s0 s1
  obtain ⟨a0, a1, a2, b0, b1, b2, r0, r1, r2, f0, f1, f2, sz, s0, s1⟩ := hx.later hbx
  replace hb := below_next hb hbx
  clear hbx hx
  go_wp2_with fail
  have hx : Boxes w.heap.size a b w2 := ⟨a0, a1, a2, b0, b1, b2, r0, r1, r2, f0, f1, f2, sz, s0, s1⟩
  refine (HO.out _).mono ?_
  rintro e w3 ⟨rfl, hbx⟩
  clear a0 a1 a2 b0 b1 b2 r0 r1 r2 f0 f1 f2 sz s0 s1
  obtain ⟨a0, a1, a2, b0, b1, b2, r0, r1, r2, f0, f1, f2, sz, s0, s1⟩ := hx.later hbx
  replace hb := below_next hb hbx
  clear hbx hx
  go_wp2_with fail
  have hx : Boxes w.heap.size a b w3 := ⟨a0, a1, a2, b0, b1, b2, r0, r1, r2, f0, f1, f2, sz, s0, s1⟩
  refine (refTruth_any (true) _).mono ?_
  rintro e w4 ⟨rfl, hbx⟩
  clear a0 a1 a2 b0 b1 b2 r0 r1 r2 f0 f1 f2 sz s0 s1
  obtain ⟨a0, a1, a2, b0, b1, b2, r0, r1, r2, f0, f1, f2, sz, s0, s1⟩ := hx.later hbx
  replace hb := below_next hb hbx
  clear hbx hx
  go_wp2
  exact bodyPost_ret (v := .tuple #[.agg #[.int .i64 3, .int .i64 (b2i (true)), .int .u64 0], .int .i64 0]) (by simp [results, Try.results16, go_sem, r0, r1, r2]) rfl ⟨rfl, by repeat (first | exact hb | exact Below.refl _ _ | refine below_setB ?_ (by omega) _ _ | refine below_alloc ?_ _)⟩
theorem rb_le2 (op : ByteArray) (a b : Val) (w : World) (o : Int) (HO : Hid (∀ W : World, Calls Try.prog 43 #[.agg #[.int .i64 a.t, .int .i64 a.n, .int .u64 a.b], .agg #[.int .i64 b.t, .int .i64 b.n, .int .u64 b.b]] W (Ret W (.int .i64 o)))) (h : a.good = true) (h2 : b.good = true) (h3 : (a.t != b.t) = false) (ho : op.toList = [60, 61]) (hc : (o == -1) = false) (k3 : (a.t == 3) = false)  : Calls Try.prog 16 #[.string op, .agg #[.int .i64 a.t, .int .i64 a.n, .int .u64 a.b], .agg #[.int .i64 b.t, .int .i64 b.n, .int .u64 b.b]] w (Ret w (okR (boolA (o == 0)))) := by
  have HA := Lib.hid h
  have HB := Lib.hid h2
  clear h h2
  go_enter Try.func16, Try.ntmps16
  go_wp2_with fail
  have hj := refForm_any a.t a.n a.b (((w.alloc (.cells #[.int .i64 a.t, .int .i64 a.n, .int .u64 a.b] 24)).alloc (.cells #[.int .i64 b.t, .int .i64 b.n, .int .u64 b.b] 24)).alloc (.cells #[.int .i64 0, .int .i64 0, .int .u64 0] 24))
  rw [show (Val.mk a.t a.n a.b).good = true from HA.out] at hj
  refine hj.mono ?_
  rintro e w1 ⟨rfl, hb⟩
  clear hj
  have hx := (boxes_new w a b 24).later hb
  replace hb := below_next (below_alloc (below_alloc (below_alloc (Below.refl w.heap.size w) _) _) _) hb
  obtain ⟨a0, a1, a2, b0, b1, b2, r0, r1, r2, f0, f1, f2, sz, s0, s1⟩ := hx
  go_wp2_with fail
  have hx : Boxes w.heap.size a b w1 := ⟨a0, a1, a2, b0, b1, b2, r0, r1, r2, f0, f1, f2, sz, s0, s1⟩
  have hj := refForm_any b.t b.n b.b w1
  rw [show (Val.mk b.t b.n b.b).good = true from HB.out] at hj
  refine hj.mono ?_
  rintro e w2 ⟨rfl, hbx⟩
  clear hj a0 a1 a2 b0 b1 b2 r0 r1 r2 f0 f1 f2 sz s0 s1
  obtain ⟨a0, a1, a2, b0, b1, b2, r0, r1, r2, f0, f1, f2, sz, s0, s1⟩ := hx.later hbx
  replace hb := below_next hb hbx
  clear hbx hx
  go_wp2_with fail
  have hx : Boxes w.heap.size a b w2 := ⟨a0, a1, a2, b0, b1, b2, r0, r1, r2, f0, f1, f2, sz, s0, s1⟩
  refine (HO.out _).mono ?_
  rintro e w3 ⟨rfl, hbx⟩
  clear a0 a1 a2 b0 b1 b2 r0 r1 r2 f0 f1 f2 sz s0 s1
  obtain ⟨a0, a1, a2, b0, b1, b2, r0, r1, r2, f0, f1, f2, sz, s0, s1⟩ := hx.later hbx
  replace hb := below_next hb hbx
  clear hbx hx
  go_wp2_with fail
  have hx : Boxes w.heap.size a b w3 := ⟨a0, a1, a2, b0, b1, b2, r0, r1, r2, f0, f1, f2, sz, s0, s1⟩
  refine (refTruth_any (o == 0) _).mono ?_
  rintro e w4 ⟨rfl, hbx⟩
  clear a0 a1 a2 b0 b1 b2 r0 r1 r2 f0 f1 f2 sz s0 s1
  obtain ⟨a0, a1, a2, b0, b1, b2, r0, r1, r2, f0, f1, f2, sz, s0, s1⟩ := hx.later hbx
  replace hb := below_next hb hbx
  clear hbx hx
  go_wp2
  exact bodyPost_ret (v := .tuple #[.agg #[.int .i64 3, .int .i64 (b2i (o == 0)), .int .u64 0], .int .i64 0]) (by simp [results, Try.results16, go_sem, r0, r1, r2]) rfl ⟨rfl, by repeat (first | exact hb | exact Below.refl _ _ | refine below_setB ?_ (by omega) _ _ | refine below_alloc ?_ _)⟩
theorem rb_ge1 (op : ByteArray) (a b : Val) (w : World) (o : Int) (HO : Hid (∀ W : World, Calls Try.prog 43 #[.agg #[.int .i64 a.t, .int .i64 a.n, .int .u64 a.b], .agg #[.int .i64 b.t, .int .i64 b.n, .int .u64 b.b]] W (Ret W (.int .i64 o)))) (h : a.good = true) (h2 : b.good = true) (h3 : (a.t != b.t) = false) (ho : op.toList = [62, 61]) (hc : (o == 1) = true) (k3 : (a.t == 3) = false)  : Calls Try.prog 16 #[.string op, .agg #[.int .i64 a.t, .int .i64 a.n, .int .u64 a.b], .agg #[.int .i64 b.t, .int .i64 b.n, .int .u64 b.b]] w (Ret w (okR (boolA (true)))) := by
  have HA := Lib.hid h
  have HB := Lib.hid h2
  clear h h2
  go_enter Try.func16, Try.ntmps16
  go_wp2_with fail
  have hj := refForm_any a.t a.n a.b (((w.alloc (.cells #[.int .i64 a.t, .int .i64 a.n, .int .u64 a.b] 24)).alloc (.cells #[.int .i64 b.t, .int .i64 b.n, .int .u64 b.b] 24)).alloc (.cells #[.int .i64 0, .int .i64 0, .int .u64 0] 24))
  rw [show (Val.mk a.t a.n a.b).good = true from HA.out] at hj
  refine hj.mono ?_
  rintro e w1 ⟨rfl, hb⟩
  clear hj
  have hx := (boxes_new w a b 24).later hb
  replace hb := below_next (below_alloc (below_alloc (below_alloc (Below.refl w.heap.size w) _) _) _) hb
  obtain ⟨a0, a1, a2, b0, b1, b2, r0, r1, r2, f0, f1, f2, sz, s0, s1⟩ := hx
  go_wp2_with fail
  have hx : Boxes w.heap.size a b w1 := ⟨a0, a1, a2, b0, b1, b2, r0, r1, r2, f0, f1, f2, sz, s0, s1⟩
  have hj := refForm_any b.t b.n b.b w1
  rw [show (Val.mk b.t b.n b.b).good = true from HB.out] at hj
  refine hj.mono ?_
  rintro e w2 ⟨rfl, hbx⟩
  clear hj a0 a1 a2 b0 b1 b2 r0 r1 r2 f0 f1 f2 sz s0 s1
  obtain ⟨a0, a1, a2, b0, b1, b2, r0, r1, r2, f0, f1, f2, sz, s0, s1⟩ := hx.later hbx
  replace hb := below_next hb hbx
  clear hbx hx
  go_wp2_with fail
  have hx : Boxes w.heap.size a b w2 := ⟨a0, a1, a2, b0, b1, b2, r0, r1, r2, f0, f1, f2, sz, s0, s1⟩
  refine (HO.out _).mono ?_
  rintro e w3 ⟨rfl, hbx⟩
  clear a0 a1 a2 b0 b1 b2 r0 r1 r2 f0 f1 f2 sz s0 s1
  obtain ⟨a0, a1, a2, b0, b1, b2, r0, r1, r2, f0, f1, f2, sz, s0, s1⟩ := hx.later hbx
  replace hb := below_next hb hbx
  clear hbx hx
  go_wp2_with fail
  have hx : Boxes w.heap.size a b w3 := ⟨a0, a1, a2, b0, b1, b2, r0, r1, r2, f0, f1, f2, sz, s0, s1⟩
  refine (refTruth_any (true) _).mono ?_
  rintro e w4 ⟨rfl, hbx⟩
  clear a0 a1 a2 b0 b1 b2 r0 r1 r2 f0 f1 f2 sz s0 s1
  obtain ⟨a0, a1, a2, b0, b1, b2, r0, r1, r2, f0, f1, f2, sz, s0, s1⟩ := hx.later hbx
  replace hb := below_next hb hbx
  clear hbx hx
  go_wp2
  exact bodyPost_ret (v := .tuple #[.agg #[.int .i64 3, .int .i64 (b2i (true)), .int .u64 0], .int .i64 0]) (by simp [results, Try.results16, go_sem, r0, r1, r2]) rfl ⟨rfl, by repeat (first | exact hb | exact Below.refl _ _ | refine below_setB ?_ (by omega) _ _ | refine below_alloc ?_ _)⟩
theorem rb_ge2 (op : ByteArray) (a b : Val) (w : World) (o : Int) (HO : Hid (∀ W : World, Calls Try.prog 43 #[.agg #[.int .i64 a.t, .int .i64 a.n, .int .u64 a.b], .agg #[.int .i64 b.t, .int .i64 b.n, .int .u64 b.b]] W (Ret W (.int .i64 o)))) (h : a.good = true) (h2 : b.good = true) (h3 : (a.t != b.t) = false) (ho : op.toList = [62, 61]) (hc : (o == 1) = false) (k3 : (a.t == 3) = false)  : Calls Try.prog 16 #[.string op, .agg #[.int .i64 a.t, .int .i64 a.n, .int .u64 a.b], .agg #[.int .i64 b.t, .int .i64 b.n, .int .u64 b.b]] w (Ret w (okR (boolA (o == 0)))) := by
  have HA := Lib.hid h
  have HB := Lib.hid h2
  clear h h2
  go_enter Try.func16, Try.ntmps16
  go_wp2_with fail
  have hj := refForm_any a.t a.n a.b (((w.alloc (.cells #[.int .i64 a.t, .int .i64 a.n, .int .u64 a.b] 24)).alloc (.cells #[.int .i64 b.t, .int .i64 b.n, .int .u64 b.b] 24)).alloc (.cells #[.int .i64 0, .int .i64 0, .int .u64 0] 24))
  rw [show (Val.mk a.t a.n a.b).good = true from HA.out] at hj
  refine hj.mono ?_
  rintro e w1 ⟨rfl, hb⟩
  clear hj
  have hx := (boxes_new w a b 24).later hb
  replace hb := below_next (below_alloc (below_alloc (below_alloc (Below.refl w.heap.size w) _) _) _) hb
  obtain ⟨a0, a1, a2, b0, b1, b2, r0, r1, r2, f0, f1, f2, sz, s0, s1⟩ := hx
  go_wp2_with fail
  have hx : Boxes w.heap.size a b w1 := ⟨a0, a1, a2, b0, b1, b2, r0, r1, r2, f0, f1, f2, sz, s0, s1⟩
  have hj := refForm_any b.t b.n b.b w1
  rw [show (Val.mk b.t b.n b.b).good = true from HB.out] at hj
  refine hj.mono ?_
  rintro e w2 ⟨rfl, hbx⟩
  clear hj a0 a1 a2 b0 b1 b2 r0 r1 r2 f0 f1 f2 sz s0 s1
  obtain ⟨a0, a1, a2, b0, b1, b2, r0, r1, r2, f0, f1, f2, sz, s0, s1⟩ := hx.later hbx
  replace hb := below_next hb hbx
  clear hbx hx
  go_wp2_with fail
  have hx : Boxes w.heap.size a b w2 := ⟨a0, a1, a2, b0, b1, b2, r0, r1, r2, f0, f1, f2, sz, s0, s1⟩
  refine (HO.out _).mono ?_
  rintro e w3 ⟨rfl, hbx⟩
  clear a0 a1 a2 b0 b1 b2 r0 r1 r2 f0 f1 f2 sz s0 s1
  obtain ⟨a0, a1, a2, b0, b1, b2, r0, r1, r2, f0, f1, f2, sz, s0, s1⟩ := hx.later hbx
  replace hb := below_next hb hbx
  clear hbx hx
  go_wp2_with fail
  have hx : Boxes w.heap.size a b w3 := ⟨a0, a1, a2, b0, b1, b2, r0, r1, r2, f0, f1, f2, sz, s0, s1⟩
  refine (refTruth_any (o == 0) _).mono ?_
  rintro e w4 ⟨rfl, hbx⟩
  clear a0 a1 a2 b0 b1 b2 r0 r1 r2 f0 f1 f2 sz s0 s1
  obtain ⟨a0, a1, a2, b0, b1, b2, r0, r1, r2, f0, f1, f2, sz, s0, s1⟩ := hx.later hbx
  replace hb := below_next hb hbx
  clear hbx hx
  go_wp2
  exact bodyPost_ret (v := .tuple #[.agg #[.int .i64 3, .int .i64 (b2i (o == 0)), .int .u64 0], .int .i64 0]) (by simp [results, Try.results16, go_sem, r0, r1, r2]) rfl ⟨rfl, by repeat (first | exact hb | exact Below.refl _ _ | refine below_setB ?_ (by omega) _ _ | refine below_alloc ?_ _)⟩
end Go.Proofs.Ytdeabmijoaepcaa
