/-
  The walk of the document's Binary: operations of floats and ints.
-/
import Derived.Test.YtdeabmijoaepcaaRef4
import Derived.Test.YtdeabmijoaepcaaVal6a
import Derived.Deep.QuietTactic
namespace Go.Proofs.Ytdeabmijoaepcaa
open Go.RowKit Go.Stk
set_option maxHeartbeats 4000000
set_option maxRecDepth 100000

theorem refFloat_nan (b : Nat) (w : World) (h : nanB b = true) : Calls Try.prog 35 #[.float .f64 b] w (Ret w (.agg #[.int .i64 2, .int .i64 0, .int .u64 (9221120237041090561 : Nat)])) := by
  have := refFloat_any b w
  rwa [show cameB b = 9221120237041090561 by simp [cameB, h]] at this
theorem below_drew {w W : World} (h : Below w.heap.size w W) : Below w.heap.size w W.drew := h.drew
theorem below_q {w W : World} (h : Below w.heap.size w W) : Below w.heap.size w W := h
theorem rb_fadd_some (op : ByteArray) (a b : Val) (w : World) (o : Int) (HO : Hid (∀ W : World, Calls Try.prog 43 #[.agg #[.int .i64 a.t, .int .i64 a.n, .int .u64 a.b], .agg #[.int .i64 b.t, .int .i64 b.n, .int .u64 b.b]] W (Ret W (.int .i64 o)))) (h : a.good = true) (h2 : b.good = true) (h3 : (a.t != b.t) = false) (ho : op.toList = [43]) (k3 : (a.t == 3) = false) (k2 : (a.t == 2) = true) (r : Nat) (hr : FloatKind.f64.format.add a.b.toNat b.b.toNat = some r) : Calls Try.prog 16 #[.string op, .agg #[.int .i64 a.t, .int .i64 a.n, .int .u64 a.b], .agg #[.int .i64 b.t, .int .i64 b.n, .int .u64 b.b]] w (Ret w (okR (fltV (cameB r)))) := by
  have h91 := fromBits_ext
  have h92 := run_fromBits
  have hrun := run_some (P := Try.prog) .add 34 a.b.toNat b.b.toNat r (Or.inl ⟨rfl, hr⟩)
  clear hr
  have HA := Lib.hid h
  have HB := Lib.hid h2
  clear h h2
  go_enter Try.func16, Try.ntmps16
  go_wp2_with fail
  have hj := refForm_any a.t a.n a.b (((w.alloc (.cells #[.int .i64 a.t, .int .i64 a.n, .int .u64 a.b] 24)).alloc (.cells #[.int .i64 b.t, .int .i64 b.n, .int .u64 b.b] 24)).alloc (.cells #[.int .i64 0, .int .i64 0, .int .u64 0] 24))
  rw [show (Val.mk a.t a.n a.b).good = true from HA.out] at hj
  refine hj.mono ?_
  rintro e w1 ⟨rfl, hb⟩
  clear hj
  have hx := (boxes_new w a b 24).later hb
  replace hb := below_next (below_alloc (below_alloc (below_alloc (Below.refl w.heap.size w) _) _) _) hb
  obtain ⟨a0, a1, a2, b0, b1, b2, r0, r1, r2, f0, f1, f2, sz, s0, s1⟩ := hx
  go_wp2_with fail
  have hx : Boxes w.heap.size a b w1 := ⟨a0, a1, a2, b0, b1, b2, r0, r1, r2, f0, f1, f2, sz, s0, s1⟩
  have hj := refForm_any b.t b.n b.b w1
  rw [show (Val.mk b.t b.n b.b).good = true from HB.out] at hj
  refine hj.mono ?_
  rintro e w2 ⟨rfl, hbx⟩
  clear hj a0 a1 a2 b0 b1 b2 r0 r1 r2 f0 f1 f2 sz s0 s1
  obtain ⟨a0, a1, a2, b0, b1, b2, r0, r1, r2, f0, f1, f2, sz, s0, s1⟩ := hx.later hbx
  replace hb := below_next hb hbx
  clear hbx hx
  go_wp2_with fail
  have hx : Boxes w.heap.size a b w2 := ⟨a0, a1, a2, b0, b1, b2, r0, r1, r2, f0, f1, f2, sz, s0, s1⟩
  refine (HO.out _).mono ?_
  rintro e w3 ⟨rfl, hbx⟩
  clear a0 a1 a2 b0 b1 b2 r0 r1 r2 f0 f1 f2 sz s0 s1
  obtain ⟨a0, a1, a2, b0, b1, b2, r0, r1, r2, f0, f1, f2, sz, s0, s1⟩ := hx.later hbx
  replace hb := below_next hb hbx
  clear hbx hx
  go_wp2_with fail
  go_quiet (fail)
  go_wp2_with fail
  have hx : Boxes w.heap.size a b w3 := ⟨a0, a1, a2, b0, b1, b2, r0, r1, r2, f0, f1, f2, sz, s0, s1⟩
  refine (refFloat_any _ _).mono ?_
  rintro e w4 ⟨rfl, hbx⟩
  clear a0 a1 a2 b0 b1 b2 r0 r1 r2 f0 f1 f2 sz s0 s1
  replace hbx := below_next (w := w3) (below_q (w := w3) (by repeat (first | exact Below.refl _ _ | refine below_drewN ?_ _ | refine below_drew ?_))) hbx
  obtain ⟨a0, a1, a2, b0, b1, b2, r0, r1, r2, f0, f1, f2, sz, s0, s1⟩ := hx.later hbx
  replace hb := below_next hb hbx
  clear hbx hx
  go_wp2
  exact bodyPost_ret (v := .tuple #[.agg #[.int .i64 2, .int .i64 0, .int .u64 (cameB r : Nat)], .int .i64 0]) (by simp [results, Try.results16, go_sem, r0, r1, r2]) rfl ⟨rfl, by repeat (first | exact hb | exact Below.refl _ _ | refine below_setB ?_ (by omega) _ _ | refine below_alloc ?_ _)⟩
theorem rb_fadd_none (op : ByteArray) (a b : Val) (w : World) (o : Int) (HO : Hid (∀ W : World, Calls Try.prog 43 #[.agg #[.int .i64 a.t, .int .i64 a.n, .int .u64 a.b], .agg #[.int .i64 b.t, .int .i64 b.n, .int .u64 b.b]] W (Ret W (.int .i64 o)))) (h : a.good = true) (h2 : b.good = true) (h3 : (a.t != b.t) = false) (ho : op.toList = [43]) (k3 : (a.t == 3) = false) (k2 : (a.t == 2) = true) (hr : FloatKind.f64.format.add a.b.toNat b.b.toNat = none) : Calls Try.prog 16 #[.string op, .agg #[.int .i64 a.t, .int .i64 a.n, .int .u64 a.b], .agg #[.int .i64 b.t, .int .i64 b.n, .int .u64 b.b]] w (Ret w (okR (fltV (9221120237041090561)))) := by
  have h91 := fromBits_ext
  have h92 := run_fromBits
  have hrun := run_nan (P := Try.prog) .add 34 a.b.toNat b.b.toNat (Or.inl ⟨rfl, hr⟩)
  clear hr
  have HA := Lib.hid h
  have HB := Lib.hid h2
  clear h h2
  go_enter Try.func16, Try.ntmps16
  go_wp2_with fail
  have hj := refForm_any a.t a.n a.b (((w.alloc (.cells #[.int .i64 a.t, .int .i64 a.n, .int .u64 a.b] 24)).alloc (.cells #[.int .i64 b.t, .int .i64 b.n, .int .u64 b.b] 24)).alloc (.cells #[.int .i64 0, .int .i64 0, .int .u64 0] 24))
  rw [show (Val.mk a.t a.n a.b).good = true from HA.out] at hj
  refine hj.mono ?_
  rintro e w1 ⟨rfl, hb⟩
  clear hj
  have hx := (boxes_new w a b 24).later hb
  replace hb := below_next (below_alloc (below_alloc (below_alloc (Below.refl w.heap.size w) _) _) _) hb
  obtain ⟨a0, a1, a2, b0, b1, b2, r0, r1, r2, f0, f1, f2, sz, s0, s1⟩ := hx
  go_wp2_with fail
  have hx : Boxes w.heap.size a b w1 := ⟨a0, a1, a2, b0, b1, b2, r0, r1, r2, f0, f1, f2, sz, s0, s1⟩
  have hj := refForm_any b.t b.n b.b w1
  rw [show (Val.mk b.t b.n b.b).good = true from HB.out] at hj
  refine hj.mono ?_
  rintro e w2 ⟨rfl, hbx⟩
  clear hj a0 a1 a2 b0 b1 b2 r0 r1 r2 f0 f1 f2 sz s0 s1
  obtain ⟨a0, a1, a2, b0, b1, b2, r0, r1, r2, f0, f1, f2, sz, s0, s1⟩ := hx.later hbx
  replace hb := below_next hb hbx
  clear hbx hx
  go_wp2_with fail
  have hx : Boxes w.heap.size a b w2 := ⟨a0, a1, a2, b0, b1, b2, r0, r1, r2, f0, f1, f2, sz, s0, s1⟩
  refine (HO.out _).mono ?_
  rintro e w3 ⟨rfl, hbx⟩
  clear a0 a1 a2 b0 b1 b2 r0 r1 r2 f0 f1 f2 sz s0 s1
  obtain ⟨a0, a1, a2, b0, b1, b2, r0, r1, r2, f0, f1, f2, sz, s0, s1⟩ := hx.later hbx
  replace hb := below_next hb hbx
  clear hbx hx
  go_wp2_with fail
  go_quiet (fail)
  go_wp2_with fail
  have hx : Boxes w.heap.size a b w3 := ⟨a0, a1, a2, b0, b1, b2, r0, r1, r2, f0, f1, f2, sz, s0, s1⟩
  refine (refFloat_nan _ _ (nanB_pick _ _ _)).mono ?_
  rintro e w4 ⟨rfl, hbx⟩
  clear a0 a1 a2 b0 b1 b2 r0 r1 r2 f0 f1 f2 sz s0 s1
  replace hbx := below_next (w := w3) (below_q (w := w3) (by repeat (first | exact Below.refl _ _ | refine below_drewN ?_ _ | refine below_drew ?_))) hbx
  obtain ⟨a0, a1, a2, b0, b1, b2, r0, r1, r2, f0, f1, f2, sz, s0, s1⟩ := hx.later hbx
  replace hb := below_next hb hbx
  clear hbx hx
  go_wp2
  exact bodyPost_ret (v := .tuple #[.agg #[.int .i64 2, .int .i64 0, .int .u64 (9221120237041090561 : Nat)], .int .i64 0]) (by simp [results, Try.results16, go_sem, r0, r1, r2]) rfl ⟨rfl, by repeat (first | exact hb | exact Below.refl _ _ | refine below_setB ?_ (by omega) _ _ | refine below_alloc ?_ _)⟩
theorem rb_fsub_some (op : ByteArray) (a b : Val) (w : World) (o : Int) (HO : Hid (∀ W : World, Calls Try.prog 43 #[.agg #[.int .i64 a.t, .int .i64 a.n, .int .u64 a.b], .agg #[.int .i64 b.t, .int .i64 b.n, .int .u64 b.b]] W (Ret W (.int .i64 o)))) (h : a.good = true) (h2 : b.good = true) (h3 : (a.t != b.t) = false) (ho : op.toList = [45]) (k3 : (a.t == 3) = false) (k2 : (a.t == 2) = true) (r : Nat) (hr : FloatKind.f64.format.sub a.b.toNat b.b.toNat = some r) : Calls Try.prog 16 #[.string op, .agg #[.int .i64 a.t, .int .i64 a.n, .int .u64 a.b], .agg #[.int .i64 b.t, .int .i64 b.n, .int .u64 b.b]] w (Ret w (okR (fltV (cameB r)))) := by
  have h91 := fromBits_ext
  have h92 := run_fromBits
  have hrun := run_some (P := Try.prog) .sub 34 a.b.toNat b.b.toNat r (Or.inr (Or.inl ⟨rfl, hr⟩))
  clear hr
  have HA := Lib.hid h
  have HB := Lib.hid h2
  clear h h2
  go_enter Try.func16, Try.ntmps16
  go_wp2_with fail
  have hj := refForm_any a.t a.n a.b (((w.alloc (.cells #[.int .i64 a.t, .int .i64 a.n, .int .u64 a.b] 24)).alloc (.cells #[.int .i64 b.t, .int .i64 b.n, .int .u64 b.b] 24)).alloc (.cells #[.int .i64 0, .int .i64 0, .int .u64 0] 24))
  rw [show (Val.mk a.t a.n a.b).good = true from HA.out] at hj
  refine hj.mono ?_
  rintro e w1 ⟨rfl, hb⟩
  clear hj
  have hx := (boxes_new w a b 24).later hb
  replace hb := below_next (below_alloc (below_alloc (below_alloc (Below.refl w.heap.size w) _) _) _) hb
  obtain ⟨a0, a1, a2, b0, b1, b2, r0, r1, r2, f0, f1, f2, sz, s0, s1⟩ := hx
  go_wp2_with fail
  have hx : Boxes w.heap.size a b w1 := ⟨a0, a1, a2, b0, b1, b2, r0, r1, r2, f0, f1, f2, sz, s0, s1⟩
  have hj := refForm_any b.t b.n b.b w1
  rw [show (Val.mk b.t b.n b.b).good = true from HB.out] at hj
  refine hj.mono ?_
  rintro e w2 ⟨rfl, hbx⟩
  clear hj a0 a1 a2 b0 b1 b2 r0 r1 r2 f0 f1 f2 sz s0 s1
  obtain ⟨a0, a1, a2, b0, b1, b2, r0, r1, r2, f0, f1, f2, sz, s0, s1⟩ := hx.later hbx
  replace hb := below_next hb hbx
  clear hbx hx
  go_wp2_with fail
  have hx : Boxes w.heap.size a b w2 := ⟨a0, a1, a2, b0, b1, b2, r0, r1, r2, f0, f1, f2, sz, s0, s1⟩
  refine (HO.out _).mono ?_
  rintro e w3 ⟨rfl, hbx⟩
  clear a0 a1 a2 b0 b1 b2 r0 r1 r2 f0 f1 f2 sz s0 s1
  obtain ⟨a0, a1, a2, b0, b1, b2, r0, r1, r2, f0, f1, f2, sz, s0, s1⟩ := hx.later hbx
  replace hb := below_next hb hbx
  clear hbx hx
  go_wp2_with fail
  go_quiet (fail)
  go_wp2_with fail
  have hx : Boxes w.heap.size a b w3 := ⟨a0, a1, a2, b0, b1, b2, r0, r1, r2, f0, f1, f2, sz, s0, s1⟩
  refine (refFloat_any _ _).mono ?_
  rintro e w4 ⟨rfl, hbx⟩
  clear a0 a1 a2 b0 b1 b2 r0 r1 r2 f0 f1 f2 sz s0 s1
  replace hbx := below_next (w := w3) (below_q (w := w3) (by repeat (first | exact Below.refl _ _ | refine below_drewN ?_ _ | refine below_drew ?_))) hbx
  obtain ⟨a0, a1, a2, b0, b1, b2, r0, r1, r2, f0, f1, f2, sz, s0, s1⟩ := hx.later hbx
  replace hb := below_next hb hbx
  clear hbx hx
  go_wp2
  exact bodyPost_ret (v := .tuple #[.agg #[.int .i64 2, .int .i64 0, .int .u64 (cameB r : Nat)], .int .i64 0]) (by simp [results, Try.results16, go_sem, r0, r1, r2]) rfl ⟨rfl, by repeat (first | exact hb | exact Below.refl _ _ | refine below_setB ?_ (by omega) _ _ | refine below_alloc ?_ _)⟩
theorem rb_fsub_none (op : ByteArray) (a b : Val) (w : World) (o : Int) (HO : Hid (∀ W : World, Calls Try.prog 43 #[.agg #[.int .i64 a.t, .int .i64 a.n, .int .u64 a.b], .agg #[.int .i64 b.t, .int .i64 b.n, .int .u64 b.b]] W (Ret W (.int .i64 o)))) (h : a.good = true) (h2 : b.good = true) (h3 : (a.t != b.t) = false) (ho : op.toList = [45]) (k3 : (a.t == 3) = false) (k2 : (a.t == 2) = true) (hr : FloatKind.f64.format.sub a.b.toNat b.b.toNat = none) : Calls Try.prog 16 #[.string op, .agg #[.int .i64 a.t, .int .i64 a.n, .int .u64 a.b], .agg #[.int .i64 b.t, .int .i64 b.n, .int .u64 b.b]] w (Ret w (okR (fltV (9221120237041090561)))) := by
  have h91 := fromBits_ext
  have h92 := run_fromBits
  have hrun := run_nan (P := Try.prog) .sub 34 a.b.toNat b.b.toNat (Or.inr (Or.inl ⟨rfl, hr⟩))
  clear hr
  have HA := Lib.hid h
  have HB := Lib.hid h2
  clear h h2
  go_enter Try.func16, Try.ntmps16
  go_wp2_with fail
  have hj := refForm_any a.t a.n a.b (((w.alloc (.cells #[.int .i64 a.t, .int .i64 a.n, .int .u64 a.b] 24)).alloc (.cells #[.int .i64 b.t, .int .i64 b.n, .int .u64 b.b] 24)).alloc (.cells #[.int .i64 0, .int .i64 0, .int .u64 0] 24))
  rw [show (Val.mk a.t a.n a.b).good = true from HA.out] at hj
  refine hj.mono ?_
  rintro e w1 ⟨rfl, hb⟩
  clear hj
  have hx := (boxes_new w a b 24).later hb
  replace hb := below_next (below_alloc (below_alloc (below_alloc (Below.refl w.heap.size w) _) _) _) hb
  obtain ⟨a0, a1, a2, b0, b1, b2, r0, r1, r2, f0, f1, f2, sz, s0, s1⟩ := hx
  go_wp2_with fail
  have hx : Boxes w.heap.size a b w1 := ⟨a0, a1, a2, b0, b1, b2, r0, r1, r2, f0, f1, f2, sz, s0, s1⟩
  have hj := refForm_any b.t b.n b.b w1
  rw [show (Val.mk b.t b.n b.b).good = true from HB.out] at hj
  refine hj.mono ?_
  rintro e w2 ⟨rfl, hbx⟩
  clear hj a0 a1 a2 b0 b1 b2 r0 r1 r2 f0 f1 f2 sz s0 s1
  obtain ⟨a0, a1, a2, b0, b1, b2, r0, r1, r2, f0, f1, f2, sz, s0, s1⟩ := hx.later hbx
  replace hb := below_next hb hbx
  clear hbx hx
  go_wp2_with fail
  have hx : Boxes w.heap.size a b w2 := ⟨a0, a1, a2, b0, b1, b2, r0, r1, r2, f0, f1, f2, sz, s0, s1⟩
  refine (HO.out _).mono ?_
  rintro e w3 ⟨rfl, hbx⟩
  clear a0 a1 a2 b0 b1 b2 r0 r1 r2 f0 f1 f2 sz s0 s1
  obtain ⟨a0, a1, a2, b0, b1, b2, r0, r1, r2, f0, f1, f2, sz, s0, s1⟩ := hx.later hbx
  replace hb := below_next hb hbx
  clear hbx hx
  go_wp2_with fail
  go_quiet (fail)
  go_wp2_with fail
  have hx : Boxes w.heap.size a b w3 := ⟨a0, a1, a2, b0, b1, b2, r0, r1, r2, f0, f1, f2, sz, s0, s1⟩
  refine (refFloat_nan _ _ (nanB_pick _ _ _)).mono ?_
  rintro e w4 ⟨rfl, hbx⟩
  clear a0 a1 a2 b0 b1 b2 r0 r1 r2 f0 f1 f2 sz s0 s1
  replace hbx := below_next (w := w3) (below_q (w := w3) (by repeat (first | exact Below.refl _ _ | refine below_drewN ?_ _ | refine below_drew ?_))) hbx
  obtain ⟨a0, a1, a2, b0, b1, b2, r0, r1, r2, f0, f1, f2, sz, s0, s1⟩ := hx.later hbx
  replace hb := below_next hb hbx
  clear hbx hx
  go_wp2
  exact bodyPost_ret (v := .tuple #[.agg #[.int .i64 2, .int .i64 0, .int .u64 (9221120237041090561 : Nat)], .int .i64 0]) (by simp [results, Try.results16, go_sem, r0, r1, r2]) rfl ⟨rfl, by repeat (first | exact hb | exact Below.refl _ _ | refine below_setB ?_ (by omega) _ _ | refine below_alloc ?_ _)⟩
theorem rb_fmul_some (op : ByteArray) (a b : Val) (w : World) (o : Int) (HO : Hid (∀ W : World, Calls Try.prog 43 #[.agg #[.int .i64 a.t, .int .i64 a.n, .int .u64 a.b], .agg #[.int .i64 b.t, .int .i64 b.n, .int .u64 b.b]] W (Ret W (.int .i64 o)))) (h : a.good = true) (h2 : b.good = true) (h3 : (a.t != b.t) = false) (ho : op.toList = [42]) (k3 : (a.t == 3) = false) (k2 : (a.t == 2) = true) (r : Nat) (hr : FloatKind.f64.format.mul a.b.toNat b.b.toNat = some r) : Calls Try.prog 16 #[.string op, .agg #[.int .i64 a.t, .int .i64 a.n, .int .u64 a.b], .agg #[.int .i64 b.t, .int .i64 b.n, .int .u64 b.b]] w (Ret w (okR (fltV (cameB r)))) := by
  have h91 := fromBits_ext
  have h92 := run_fromBits
  have hrun := run_some (P := Try.prog) .mul 34 a.b.toNat b.b.toNat r (Or.inr (Or.inr (Or.inl ⟨rfl, hr⟩)))
  clear hr
  have HA := Lib.hid h
  have HB := Lib.hid h2
  clear h h2
  go_enter Try.func16, Try.ntmps16
  go_wp2_with fail
  have hj := refForm_any a.t a.n a.b (((w.alloc (.cells #[.int .i64 a.t, .int .i64 a.n, .int .u64 a.b] 24)).alloc (.cells #[.int .i64 b.t, .int .i64 b.n, .int .u64 b.b] 24)).alloc (.cells #[.int .i64 0, .int .i64 0, .int .u64 0] 24))
  rw [show (Val.mk a.t a.n a.b).good = true from HA.out] at hj
  refine hj.mono ?_
  rintro e w1 ⟨rfl, hb⟩
  clear hj
  have hx := (boxes_new w a b 24).later hb
  replace hb := below_next (below_alloc (below_alloc (below_alloc (Below.refl w.heap.size w) _) _) _) hb
  obtain ⟨a0, a1, a2, b0, b1, b2, r0, r1, r2, f0, f1, f2, sz, s0, s1⟩ := hx
  go_wp2_with fail
  have hx : Boxes w.heap.size a b w1 := ⟨a0, a1, a2, b0, b1, b2, r0, r1, r2, f0, f1, f2, sz, s0, s1⟩
  have hj := refForm_any b.t b.n b.b w1
  rw [show (Val.mk b.t b.n b.b).good = true from HB.out] at hj
  refine hj.mono ?_
  rintro e w2 ⟨rfl, hbx⟩
  clear hj a0 a1 a2 b0 b1 b2 r0 r1 r2 f0 f1 f2 sz s0 s1
  obtain ⟨a0, a1, a2, b0, b1, b2, r0, r1, r2, f0, f1, f2, sz, s0, s1⟩ := hx.later hbx
  replace hb := below_next hb hbx
  clear hbx hx
  go_wp2_with fail
  have hx : Boxes w.heap.size a b w2 := ⟨a0, a1, a2, b0, b1, b2, r0, r1, r2, f0, f1, f2, sz, s0, s1⟩
  refine (HO.out _).mono ?_
  rintro e w3 ⟨rfl, hbx⟩
  clear a0 a1 a2 b0 b1 b2 r0 r1 r2 f0 f1 f2 sz s0 s1
  obtain ⟨a0, a1, a2, b0, b1, b2, r0, r1, r2, f0, f1, f2, sz, s0, s1⟩ := hx.later hbx
  replace hb := below_next hb hbx
  clear hbx hx
  go_wp2_with fail
  go_quiet (fail)
  go_wp2_with fail
  have hx : Boxes w.heap.size a b w3 := ⟨a0, a1, a2, b0, b1, b2, r0, r1, r2, f0, f1, f2, sz, s0, s1⟩
  refine (refFloat_any _ _).mono ?_
  rintro e w4 ⟨rfl, hbx⟩
  clear a0 a1 a2 b0 b1 b2 r0 r1 r2 f0 f1 f2 sz s0 s1
  replace hbx := below_next (w := w3) (below_q (w := w3) (by repeat (first | exact Below.refl _ _ | refine below_drewN ?_ _ | refine below_drew ?_))) hbx
  obtain ⟨a0, a1, a2, b0, b1, b2, r0, r1, r2, f0, f1, f2, sz, s0, s1⟩ := hx.later hbx
  replace hb := below_next hb hbx
  clear hbx hx
  go_wp2
  exact bodyPost_ret (v := .tuple #[.agg #[.int .i64 2, .int .i64 0, .int .u64 (cameB r : Nat)], .int .i64 0]) (by simp [results, Try.results16, go_sem, r0, r1, r2]) rfl ⟨rfl, by repeat (first | exact hb | exact Below.refl _ _ | refine below_setB ?_ (by omega) _ _ | refine below_alloc ?_ _)⟩
theorem rb_fmul_none (op : ByteArray) (a b : Val) (w : World) (o : Int) (HO : Hid (∀ W : World, Calls Try.prog 43 #[.agg #[.int .i64 a.t, .int .i64 a.n, .int .u64 a.b], .agg #[.int .i64 b.t, .int .i64 b.n, .int .u64 b.b]] W (Ret W (.int .i64 o)))) (h : a.good = true) (h2 : b.good = true) (h3 : (a.t != b.t) = false) (ho : op.toList = [42]) (k3 : (a.t == 3) = false) (k2 : (a.t == 2) = true) (hr : FloatKind.f64.format.mul a.b.toNat b.b.toNat = none) : Calls Try.prog 16 #[.string op, .agg #[.int .i64 a.t, .int .i64 a.n, .int .u64 a.b], .agg #[.int .i64 b.t, .int .i64 b.n, .int .u64 b.b]] w (Ret w (okR (fltV (9221120237041090561)))) := by
  have h91 := fromBits_ext
  have h92 := run_fromBits
  have hrun := run_nan (P := Try.prog) .mul 34 a.b.toNat b.b.toNat (Or.inr (Or.inr (Or.inl ⟨rfl, hr⟩)))
  clear hr
  have HA := Lib.hid h
  have HB := Lib.hid h2
  clear h h2
  go_enter Try.func16, Try.ntmps16
  go_wp2_with fail
  have hj := refForm_any a.t a.n a.b (((w.alloc (.cells #[.int .i64 a.t, .int .i64 a.n, .int .u64 a.b] 24)).alloc (.cells #[.int .i64 b.t, .int .i64 b.n, .int .u64 b.b] 24)).alloc (.cells #[.int .i64 0, .int .i64 0, .int .u64 0] 24))
  rw [show (Val.mk a.t a.n a.b).good = true from HA.out] at hj
  refine hj.mono ?_
  rintro e w1 ⟨rfl, hb⟩
  clear hj
  have hx := (boxes_new w a b 24).later hb
  replace hb := below_next (below_alloc (below_alloc (below_alloc (Below.refl w.heap.size w) _) _) _) hb
  obtain ⟨a0, a1, a2, b0, b1, b2, r0, r1, r2, f0, f1, f2, sz, s0, s1⟩ := hx
  go_wp2_with fail
  have hx : Boxes w.heap.size a b w1 := ⟨a0, a1, a2, b0, b1, b2, r0, r1, r2, f0, f1, f2, sz, s0, s1⟩
  have hj := refForm_any b.t b.n b.b w1
  rw [show (Val.mk b.t b.n b.b).good = true from HB.out] at hj
  refine hj.mono ?_
  rintro e w2 ⟨rfl, hbx⟩
  clear hj a0 a1 a2 b0 b1 b2 r0 r1 r2 f0 f1 f2 sz s0 s1
  obtain ⟨a0, a1, a2, b0, b1, b2, r0, r1, r2, f0, f1, f2, sz, s0, s1⟩ := hx.later hbx
  replace hb := below_next hb hbx
  clear hbx hx
  go_wp2_with fail
  have hx : Boxes w.heap.size a b w2 := ⟨a0, a1, a2, b0, b1, b2, r0, r1, r2, f0, f1, f2, sz, s0, s1⟩
  refine (HO.out _).mono ?_
  rintro e w3 ⟨rfl, hbx⟩
  clear a0 a1 a2 b0 b1 b2 r0 r1 r2 f0 f1 f2 sz s0 s1
  obtain ⟨a0, a1, a2, b0, b1, b2, r0, r1, r2, f0, f1, f2, sz, s0, s1⟩ := hx.later hbx
  replace hb := below_next hb hbx
  clear hbx hx
  go_wp2_with fail
  go_quiet (fail)
  go_wp2_with fail
  have hx : Boxes w.heap.size a b w3 := ⟨a0, a1, a2, b0, b1, b2, r0, r1, r2, f0, f1, f2, sz, s0, s1⟩
  refine (refFloat_nan _ _ (nanB_pick _ _ _)).mono ?_
  rintro e w4 ⟨rfl, hbx⟩
  clear a0 a1 a2 b0 b1 b2 r0 r1 r2 f0 f1 f2 sz s0 s1
  replace hbx := below_next (w := w3) (below_q (w := w3) (by repeat (first | exact Below.refl _ _ | refine below_drewN ?_ _ | refine below_drew ?_))) hbx
  obtain ⟨a0, a1, a2, b0, b1, b2, r0, r1, r2, f0, f1, f2, sz, s0, s1⟩ := hx.later hbx
  replace hb := below_next hb hbx
  clear hbx hx
  go_wp2
  exact bodyPost_ret (v := .tuple #[.agg #[.int .i64 2, .int .i64 0, .int .u64 (9221120237041090561 : Nat)], .int .i64 0]) (by simp [results, Try.results16, go_sem, r0, r1, r2]) rfl ⟨rfl, by repeat (first | exact hb | exact Below.refl _ _ | refine below_setB ?_ (by omega) _ _ | refine below_alloc ?_ _)⟩
theorem rb_fdiv_some (op : ByteArray) (a b : Val) (w : World) (o : Int) (HO : Hid (∀ W : World, Calls Try.prog 43 #[.agg #[.int .i64 a.t, .int .i64 a.n, .int .u64 a.b], .agg #[.int .i64 b.t, .int .i64 b.n, .int .u64 b.b]] W (Ret W (.int .i64 o)))) (h : a.good = true) (h2 : b.good = true) (h3 : (a.t != b.t) = false) (ho : op.toList = [47]) (k3 : (a.t == 3) = false) (k2 : (a.t == 2) = true) (r : Nat) (hr : FloatKind.f64.format.div a.b.toNat b.b.toNat = some r) : Calls Try.prog 16 #[.string op, .agg #[.int .i64 a.t, .int .i64 a.n, .int .u64 a.b], .agg #[.int .i64 b.t, .int .i64 b.n, .int .u64 b.b]] w (Ret w (okR (fltV (cameB r)))) := by
  have h91 := fromBits_ext
  have h92 := run_fromBits
  have hrun := run_some (P := Try.prog) .quo 34 a.b.toNat b.b.toNat r (Or.inr (Or.inr (Or.inr ⟨rfl, hr⟩)))
  clear hr
  have HA := Lib.hid h
  have HB := Lib.hid h2
  clear h h2
  go_enter Try.func16, Try.ntmps16
  go_wp2_with fail
  have hj := refForm_any a.t a.n a.b (((w.alloc (.cells #[.int .i64 a.t, .int .i64 a.n, .int .u64 a.b] 24)).alloc (.cells #[.int .i64 b.t, .int .i64 b.n, .int .u64 b.b] 24)).alloc (.cells #[.int .i64 0, .int .i64 0, .int .u64 0] 24))
  rw [show (Val.mk a.t a.n a.b).good = true from HA.out] at hj
  refine hj.mono ?_
  rintro e w1 ⟨rfl, hb⟩
  clear hj
  have hx := (boxes_new w a b 24).later hb
  replace hb := below_next (below_alloc (below_alloc (below_alloc (Below.refl w.heap.size w) _) _) _) hb
  obtain ⟨a0, a1, a2, b0, b1, b2, r0, r1, r2, f0, f1, f2, sz, s0, s1⟩ := hx
  go_wp2_with fail
  have hx : Boxes w.heap.size a b w1 := ⟨a0, a1, a2, b0, b1, b2, r0, r1, r2, f0, f1, f2, sz, s0, s1⟩
  have hj := refForm_any b.t b.n b.b w1
  rw [show (Val.mk b.t b.n b.b).good = true from HB.out] at hj
  refine hj.mono ?_
  rintro e w2 ⟨rfl, hbx⟩
  clear hj a0 a1 a2 b0 b1 b2 r0 r1 r2 f0 f1 f2 sz s0 s1
  obtain ⟨a0, a1, a2, b0, b1, b2, r0, r1, r2, f0, f1, f2, sz, s0, s1⟩ := hx.later hbx
  replace hb := below_next hb hbx
  clear hbx hx
  go_wp2_with fail
  have hx : Boxes w.heap.size a b w2 := ⟨a0, a1, a2, b0, b1, b2, r0, r1, r2, f0, f1, f2, sz, s0, s1⟩
  refine (HO.out _).mono ?_
  rintro e w3 ⟨rfl, hbx⟩
  clear a0 a1 a2 b0 b1 b2 r0 r1 r2 f0 f1 f2 sz s0 s1
  obtain ⟨a0, a1, a2, b0, b1, b2, r0, r1, r2, f0, f1, f2, sz, s0, s1⟩ := hx.later hbx
  replace hb := below_next hb hbx
  clear hbx hx
  go_wp2_with fail
  go_quiet (fail)
  go_wp2_with fail
  have hx : Boxes w.heap.size a b w3 := ⟨a0, a1, a2, b0, b1, b2, r0, r1, r2, f0, f1, f2, sz, s0, s1⟩
  refine (refFloat_any _ _).mono ?_
  rintro e w4 ⟨rfl, hbx⟩
  clear a0 a1 a2 b0 b1 b2 r0 r1 r2 f0 f1 f2 sz s0 s1
  replace hbx := below_next (w := w3) (below_q (w := w3) (by repeat (first | exact Below.refl _ _ | refine below_drewN ?_ _ | refine below_drew ?_))) hbx
  obtain ⟨a0, a1, a2, b0, b1, b2, r0, r1, r2, f0, f1, f2, sz, s0, s1⟩ := hx.later hbx
  replace hb := below_next hb hbx
  clear hbx hx
  go_wp2
  exact bodyPost_ret (v := .tuple #[.agg #[.int .i64 2, .int .i64 0, .int .u64 (cameB r : Nat)], .int .i64 0]) (by simp [results, Try.results16, go_sem, r0, r1, r2]) rfl ⟨rfl, by repeat (first | exact hb | exact Below.refl _ _ | refine below_setB ?_ (by omega) _ _ | refine below_alloc ?_ _)⟩
theorem rb_fdiv_none (op : ByteArray) (a b : Val) (w : World) (o : Int) (HO : Hid (∀ W : World, Calls Try.prog 43 #[.agg #[.int .i64 a.t, .int .i64 a.n, .int .u64 a.b], .agg #[.int .i64 b.t, .int .i64 b.n, .int .u64 b.b]] W (Ret W (.int .i64 o)))) (h : a.good = true) (h2 : b.good = true) (h3 : (a.t != b.t) = false) (ho : op.toList = [47]) (k3 : (a.t == 3) = false) (k2 : (a.t == 2) = true) (hr : FloatKind.f64.format.div a.b.toNat b.b.toNat = none) : Calls Try.prog 16 #[.string op, .agg #[.int .i64 a.t, .int .i64 a.n, .int .u64 a.b], .agg #[.int .i64 b.t, .int .i64 b.n, .int .u64 b.b]] w (Ret w (okR (fltV (9221120237041090561)))) := by
  have h91 := fromBits_ext
  have h92 := run_fromBits
  have hrun := run_nan (P := Try.prog) .quo 34 a.b.toNat b.b.toNat (Or.inr (Or.inr (Or.inr ⟨rfl, hr⟩)))
  clear hr
  have HA := Lib.hid h
  have HB := Lib.hid h2
  clear h h2
  go_enter Try.func16, Try.ntmps16
  go_wp2_with fail
  have hj := refForm_any a.t a.n a.b (((w.alloc (.cells #[.int .i64 a.t, .int .i64 a.n, .int .u64 a.b] 24)).alloc (.cells #[.int .i64 b.t, .int .i64 b.n, .int .u64 b.b] 24)).alloc (.cells #[.int .i64 0, .int .i64 0, .int .u64 0] 24))
  rw [show (Val.mk a.t a.n a.b).good = true from HA.out] at hj
  refine hj.mono ?_
  rintro e w1 ⟨rfl, hb⟩
  clear hj
  have hx := (boxes_new w a b 24).later hb
  replace hb := below_next (below_alloc (below_alloc (below_alloc (Below.refl w.heap.size w) _) _) _) hb
  obtain ⟨a0, a1, a2, b0, b1, b2, r0, r1, r2, f0, f1, f2, sz, s0, s1⟩ := hx
  go_wp2_with fail
  have hx : Boxes w.heap.size a b w1 := ⟨a0, a1, a2, b0, b1, b2, r0, r1, r2, f0, f1, f2, sz, s0, s1⟩
  have hj := refForm_any b.t b.n b.b w1
  rw [show (Val.mk b.t b.n b.b).good = true from HB.out] at hj
  refine hj.mono ?_
  rintro e w2 ⟨rfl, hbx⟩
  clear hj a0 a1 a2 b0 b1 b2 r0 r1 r2 f0 f1 f2 sz s0 s1
  obtain ⟨a0, a1, a2, b0, b1, b2, r0, r1, r2, f0, f1, f2, sz, s0, s1⟩ := hx.later hbx
  replace hb := below_next hb hbx
  clear hbx hx
  go_wp2_with fail
  have hx : Boxes w.heap.size a b w2 := ⟨a0, a1, a2, b0, b1, b2, r0, r1, r2, f0, f1, f2, sz, s0, s1⟩
  refine (HO.out _).mono ?_
  rintro e w3 ⟨rfl, hbx⟩
  clear a0 a1 a2 b0 b1 b2 r0 r1 r2 f0 f1 f2 sz s0 s1
  obtain ⟨a0, a1, a2, b0, b1, b2, r0, r1, r2, f0, f1, f2, sz, s0, s1⟩ := hx.later hbx
  replace hb := below_next hb hbx
  clear hbx hx
  go_wp2_with fail
  go_quiet (fail)
  go_wp2_with fail
  have hx : Boxes w.heap.size a b w3 := ⟨a0, a1, a2, b0, b1, b2, r0, r1, r2, f0, f1, f2, sz, s0, s1⟩
  refine (refFloat_nan _ _ (nanB_pick _ _ _)).mono ?_
  rintro e w4 ⟨rfl, hbx⟩
  clear a0 a1 a2 b0 b1 b2 r0 r1 r2 f0 f1 f2 sz s0 s1
  replace hbx := below_next (w := w3) (below_q (w := w3) (by repeat (first | exact Below.refl _ _ | refine below_drewN ?_ _ | refine below_drew ?_))) hbx
  obtain ⟨a0, a1, a2, b0, b1, b2, r0, r1, r2, f0, f1, f2, sz, s0, s1⟩ := hx.later hbx
  replace hb := below_next hb hbx
  clear hbx hx
  go_wp2
  exact bodyPost_ret (v := .tuple #[.agg #[.int .i64 2, .int .i64 0, .int .u64 (9221120237041090561 : Nat)], .int .i64 0]) (by simp [results, Try.results16, go_sem, r0, r1, r2]) rfl ⟨rfl, by repeat (first | exact hb | exact Below.refl _ _ | refine below_setB ?_ (by omega) _ _ | refine below_alloc ?_ _)⟩
theorem rb_flt_none (op : ByteArray) (a b : Val) (w : World) (o : Int) (HO : Hid (∀ W : World, Calls Try.prog 43 #[.agg #[.int .i64 a.t, .int .i64 a.n, .int .u64 a.b], .agg #[.int .i64 b.t, .int .i64 b.n, .int .u64 b.b]] W (Ret W (.int .i64 o)))) (h : a.good = true) (h2 : b.good = true) (h3 : (a.t != b.t) = false) (e0 : (op.toList == [61, 61]) = false) (e1 : (op.toList == [33, 61]) = false) (e2 : (op.toList == [60]) = false) (e3 : (op.toList == [60, 61]) = false) (e4 : (op.toList == [62]) = false) (e5 : (op.toList == [62, 61]) = false) (e6 : (op.toList == [43]) = false) (e7 : (op.toList == [45]) = false) (e8 : (op.toList == [42]) = false) (e9 : (op.toList == [47]) = false) (k3 : (a.t == 3) = false) (k2 : (a.t == 2) = true)  : Calls Try.prog 16 #[.string op, .agg #[.int .i64 a.t, .int .i64 a.n, .int .u64 a.b], .agg #[.int .i64 b.t, .int .i64 b.n, .int .u64 b.b]] w (Ret w (badR (-1))) := by
  have h91 := fromBits_ext
  have h92 := run_fromBits
  have HA := Lib.hid h
  have HB := Lib.hid h2
  clear h h2
  go_enter Try.func16, Try.ntmps16
  go_wp2_with fail
  have hj := refForm_any a.t a.n a.b (((w.alloc (.cells #[.int .i64 a.t, .int .i64 a.n, .int .u64 a.b] 24)).alloc (.cells #[.int .i64 b.t, .int .i64 b.n, .int .u64 b.b] 24)).alloc (.cells #[.int .i64 0, .int .i64 0, .int .u64 0] 24))
  rw [show (Val.mk a.t a.n a.b).good = true from HA.out] at hj
  refine hj.mono ?_
  rintro e w1 ⟨rfl, hb⟩
  clear hj
  have hx := (boxes_new w a b 24).later hb
  replace hb := below_next (below_alloc (below_alloc (below_alloc (Below.refl w.heap.size w) _) _) _) hb
  obtain ⟨a0, a1, a2, b0, b1, b2, r0, r1, r2, f0, f1, f2, sz, s0, s1⟩ := hx
  go_wp2_with fail
  have hx : Boxes w.heap.size a b w1 := ⟨a0, a1, a2, b0, b1, b2, r0, r1, r2, f0, f1, f2, sz, s0, s1⟩
  have hj := refForm_any b.t b.n b.b w1
  rw [show (Val.mk b.t b.n b.b).good = true from HB.out] at hj
  refine hj.mono ?_
  rintro e w2 ⟨rfl, hbx⟩
  clear hj a0 a1 a2 b0 b1 b2 r0 r1 r2 f0 f1 f2 sz s0 s1
  obtain ⟨a0, a1, a2, b0, b1, b2, r0, r1, r2, f0, f1, f2, sz, s0, s1⟩ := hx.later hbx
  replace hb := below_next hb hbx
  clear hbx hx
  go_wp2_with fail
  have hx : Boxes w.heap.size a b w2 := ⟨a0, a1, a2, b0, b1, b2, r0, r1, r2, f0, f1, f2, sz, s0, s1⟩
  refine (HO.out _).mono ?_
  rintro e w3 ⟨rfl, hbx⟩
  clear a0 a1 a2 b0 b1 b2 r0 r1 r2 f0 f1 f2 sz s0 s1
  obtain ⟨a0, a1, a2, b0, b1, b2, r0, r1, r2, f0, f1, f2, sz, s0, s1⟩ := hx.later hbx
  replace hb := below_next hb hbx
  clear hbx hx
  go_wp2_with fail
  go_quiet (fail)
  go_wp2
  exact bodyPost_ret (v := .tuple #[.agg #[.int .i64 0, .int .i64 0, .int .u64 0], .int .i64 (-1)]) (by simp [results, Try.results16, go_sem, r0, r1, r2]) rfl ⟨rfl, by repeat (first | exact hb | refine below_drewN ?_ _ | exact Below.refl _ _ | refine below_setB ?_ (by omega) _ _ | refine below_alloc ?_ _)⟩
end Go.Proofs.Ytdeabmijoaepcaa
