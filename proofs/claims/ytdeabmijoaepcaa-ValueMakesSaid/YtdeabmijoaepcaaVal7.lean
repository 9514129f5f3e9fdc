/-
  The walk of package value's Binary: two bools; Unary.
-/
import Derived.Test.YtdeabmijoaepcaaVal5
namespace Go.Proofs.Ytdeabmijoaepcaa
open Go.RowKit Go.Stk

theorem bin_bool (op : ByteArray) (a b : Val) (w : World) (h : a.good = true) (h2 : b.good = true) (h3 : (a.t != b.t) = false) (h0 : (a.t == 1) = false) (h1 : (a.t == 2) = false) : Calls Try.prog 15 #[.string op, .agg #[.int .i64 a.t, .int .i64 a.n, .int .u64 a.b], .agg #[.int .i64 b.t, .int .i64 b.n, .int .u64 b.b]] w (Ret w (boolsR op.toList (a.n == 1) (b.n == 1))) := by
  have HA := Lib.hid h
  have HB := Lib.hid h2
  clear h h2
  go_enter Try.func15, Try.ntmps15
  go_wp2_with fail
  have hj := valGood_any a.t a.n a.b (((w.alloc (.cells #[.int .i64 a.t, .int .i64 a.n, .int .u64 a.b] 24)).alloc (.cells #[.int .i64 b.t, .int .i64 b.n, .int .u64 b.b] 24)).alloc (.cells #[.int .i64 0, .int .i64 0, .int .u64 0] 24))
  rw [show (Val.mk a.t a.n a.b).good = true from HA.out] at hj
  refine hj.mono ?_
  rintro e w1 ⟨rfl, hb⟩
  clear hj
  have hx := (boxes_new w a b 24).later hb
  replace hb := below_next (below_alloc (below_alloc (below_alloc (Below.refl w.heap.size w) _) _) _) hb
  obtain ⟨a0, a1, a2, b0, b1, b2, r0, r1, r2, f0, f1, f2, sz, s0, s1⟩ := hx
  go_wp2_with fail
  have hx : Boxes w.heap.size a b w1 := ⟨a0, a1, a2, b0, b1, b2, r0, r1, r2, f0, f1, f2, sz, s0, s1⟩
  have hj := valGood_any b.t b.n b.b w1
  rw [show (Val.mk b.t b.n b.b).good = true from HB.out] at hj
  refine hj.mono ?_
  rintro e w2 ⟨rfl, hbx⟩
  clear hj a0 a1 a2 b0 b1 b2 r0 r1 r2 f0 f1 f2 sz s0 s1
  obtain ⟨a0, a1, a2, b0, b1, b2, r0, r1, r2, f0, f1, f2, sz, s0, s1⟩ := hx.later hbx
  replace hb := below_next hb hbx
  clear hbx hx
  go_wp2_with fail
  obtain ⟨t, n, q, f, E⟩ := boolsR_form op.toList (a.n == 1) (b.n == 1)
  have hj := bools_any op (a.n == 1) (b.n == 1) w2
  rw [E] at hj
  refine hj.mono ?_
  rintro e w4 ⟨rfl, hbx⟩
  clear hj
  have hx := (Boxes.mk a0 a1 a2 b0 b1 b2 r0 r1 r2 f0 f1 f2 sz s0 s1).later hbx
  clear a0 a1 a2 b0 b1 b2 r0 r1 r2 f0 f1 f2 sz s0 s1
  obtain ⟨a0, a1, a2, b0, b1, b2, r0, r1, r2, f0, f1, f2, sz, s0, s1⟩ := hx
  replace hb := below_next hb hbx
  clear hbx
  have EH := Lib.hid E
  clear E
  go_wp2
  exact bodyPost_ret (v := .tuple #[.agg #[.int .i64 t, .int .i64 n, .int .u64 q], .int .i64 f]) (by simp [results, Try.results15, go_sem, r0, r1, r2]) rfl ⟨by rw [EH.out], by repeat (first | exact hb | exact Below.refl _ _ | refine below_setB ?_ (by omega) _ _ | refine below_alloc ?_ _)⟩
end Go.Proofs.Ytdeabmijoaepcaa
