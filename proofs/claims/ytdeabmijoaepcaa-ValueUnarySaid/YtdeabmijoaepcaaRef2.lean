/-
  The walk of the document's Unary: all but a float as an int.
-/
import Derived.Test.YtdeabmijoaepcaaRef1
namespace Go.Proofs.Ytdeabmijoaepcaa
open Go.RowKit Go.Stk

theorem bits_not (y : Int) (h1 : 0 ≤ y) (h2 : y < 18446744073709551616) : bits BinOp.xor IntKind.u64 IntKind.u64.max y = 18446744073709551615 - y := by
  have ha : BitVec.ofInt 64 18446744073709551615 = BitVec.allOnes 64 := by decide
  have hb : (BitVec.ofInt 64 y).toNat = y.toNat := by
    rw [BitVec.toNat_ofInt]
    show (y % ((2 ^ 64 : Nat) : Int)).toNat = y.toNat
    omega
  show IntKind.u64.wrap ((BitVec.ofInt 64 18446744073709551615 ^^^ BitVec.ofInt 64 y : BitVec 64).toNat) = _
  rw [ha]
  have hx : (BitVec.allOnes 64 ^^^ BitVec.ofInt 64 y : BitVec 64).toNat = 18446744073709551615 - y.toNat := by
    rw [BitVec.allOnes_xor, BitVec.toNat_not, hb]
  rw [hx, IntKind.wrap_u64]
  omega
theorem not_add (n : Int) : wrap64 (IntKind.u64.wrap (bits BinOp.xor IntKind.u64 IntKind.u64.max (IntKind.u64.wrap n) + 1)) = wrap64 (-n) := by
  rw [bits_not _ (by rw [IntKind.wrap_u64]; omega) (by rw [IntKind.wrap_u64]; omega)]
  simp only [IntKind.wrap_u64, wrap64]
  omega

theorem rn_bad (op : ByteArray) (a : Val) (w : World) (h : a.good = false) : Calls Try.prog 14 #[.string op, .agg #[.int .i64 a.t, .int .i64 a.n, .int .u64 a.b]] w (Ret w (badR (-1))) := by
  have HA := Lib.hid h
  clear h
  go_enter Try.func14, Try.ntmps14
  go_wp2_with fail
  have hj := refForm_any a.t a.n a.b ((w.alloc (.cells #[.int .i64 a.t, .int .i64 a.n, .int .u64 a.b] 24)).alloc (.cells #[.int .i64 0, .int .i64 0, .int .u64 0] 24))
  rw [show (Val.mk a.t a.n a.b).good = false from HA.out] at hj
  refine hj.mono ?_
  rintro e w1 ⟨rfl, hb⟩
  clear hj
  have hx := (box1_new w a 24).later hb
  replace hb := below_next (below_alloc (below_alloc (Below.refl w.heap.size w) _) _) hb
  obtain ⟨a0, a1, a2, r0, r1, r2, f0, f1, f2, sz, s0⟩ := hx
  go_wp2
  exact bodyPost_ret (v := .tuple #[.agg #[.int .i64 0, .int .i64 0, .int .u64 0], .int .i64 (-1)]) (by simp [results, Try.results14, go_sem, r0, r1, r2]) rfl ⟨rfl, by repeat (first | exact hb | exact Below.refl _ _ | refine below_setB ?_ (by omega) _ _ | refine below_alloc ?_ _)⟩

theorem rn_minus_none (op : ByteArray) (a : Val) (w : World) (h : a.good = true) (ho : op.toList = [45]) (h1 : (a.t == 1) = false) (h2 : (a.t == 2) = false) : Calls Try.prog 14 #[.string op, .agg #[.int .i64 a.t, .int .i64 a.n, .int .u64 a.b]] w (Ret w (badR (-1))) := by
  have HA := Lib.hid h
  clear h
  go_enter Try.func14, Try.ntmps14
  go_wp2_with fail
  have hj := refForm_any a.t a.n a.b ((w.alloc (.cells #[.int .i64 a.t, .int .i64 a.n, .int .u64 a.b] 24)).alloc (.cells #[.int .i64 0, .int .i64 0, .int .u64 0] 24))
  rw [show (Val.mk a.t a.n a.b).good = true from HA.out] at hj
  refine hj.mono ?_
  rintro e w1 ⟨rfl, hb⟩
  clear hj
  have hx := (box1_new w a 24).later hb
  replace hb := below_next (below_alloc (below_alloc (Below.refl w.heap.size w) _) _) hb
  obtain ⟨a0, a1, a2, r0, r1, r2, f0, f1, f2, sz, s0⟩ := hx
  go_wp2
  exact bodyPost_ret (v := .tuple #[.agg #[.int .i64 0, .int .i64 0, .int .u64 0], .int .i64 (-1)]) (by simp [results, Try.results14, go_sem, r0, r1, r2]) rfl ⟨rfl, by repeat (first | exact hb | exact Below.refl _ _ | refine below_setB ?_ (by omega) _ _ | refine below_alloc ?_ _)⟩

theorem rn_not_none (op : ByteArray) (a : Val) (w : World) (h : a.good = true) (ho : op.toList = [33]) (h1 : (a.t == 3) = false) : Calls Try.prog 14 #[.string op, .agg #[.int .i64 a.t, .int .i64 a.n, .int .u64 a.b]] w (Ret w (badR (-1))) := by
  have HA := Lib.hid h
  clear h
  go_enter Try.func14, Try.ntmps14
  go_wp2_with fail
  have hj := refForm_any a.t a.n a.b ((w.alloc (.cells #[.int .i64 a.t, .int .i64 a.n, .int .u64 a.b] 24)).alloc (.cells #[.int .i64 0, .int .i64 0, .int .u64 0] 24))
  rw [show (Val.mk a.t a.n a.b).good = true from HA.out] at hj
  refine hj.mono ?_
  rintro e w1 ⟨rfl, hb⟩
  clear hj
  have hx := (box1_new w a 24).later hb
  replace hb := below_next (below_alloc (below_alloc (Below.refl w.heap.size w) _) _) hb
  obtain ⟨a0, a1, a2, r0, r1, r2, f0, f1, f2, sz, s0⟩ := hx
  go_wp2
  exact bodyPost_ret (v := .tuple #[.agg #[.int .i64 0, .int .i64 0, .int .u64 0], .int .i64 (-1)]) (by simp [results, Try.results14, go_sem, r0, r1, r2]) rfl ⟨rfl, by repeat (first | exact hb | exact Below.refl _ _ | refine below_setB ?_ (by omega) _ _ | refine below_alloc ?_ _)⟩

theorem rn_int_none (op : ByteArray) (a : Val) (w : World) (h : a.good = true) (ho : op.toList = [105, 110, 116]) (h1 : (a.t == 2) = false) : Calls Try.prog 14 #[.string op, .agg #[.int .i64 a.t, .int .i64 a.n, .int .u64 a.b]] w (Ret w (badR (-1))) := by
  have HA := Lib.hid h
  clear h
  go_enter Try.func14, Try.ntmps14
  go_wp2_with fail
  have hj := refForm_any a.t a.n a.b ((w.alloc (.cells #[.int .i64 a.t, .int .i64 a.n, .int .u64 a.b] 24)).alloc (.cells #[.int .i64 0, .int .i64 0, .int .u64 0] 24))
  rw [show (Val.mk a.t a.n a.b).good = true from HA.out] at hj
  refine hj.mono ?_
  rintro e w1 ⟨rfl, hb⟩
  clear hj
  have hx := (box1_new w a 24).later hb
  replace hb := below_next (below_alloc (below_alloc (Below.refl w.heap.size w) _) _) hb
  obtain ⟨a0, a1, a2, r0, r1, r2, f0, f1, f2, sz, s0⟩ := hx
  go_wp2
  exact bodyPost_ret (v := .tuple #[.agg #[.int .i64 0, .int .i64 0, .int .u64 0], .int .i64 (-1)]) (by simp [results, Try.results14, go_sem, r0, r1, r2]) rfl ⟨rfl, by repeat (first | exact hb | exact Below.refl _ _ | refine below_setB ?_ (by omega) _ _ | refine below_alloc ?_ _)⟩

theorem rn_float_none (op : ByteArray) (a : Val) (w : World) (h : a.good = true) (ho : op.toList = [102, 108, 111, 97, 116]) (h1 : (a.t == 1) = false) : Calls Try.prog 14 #[.string op, .agg #[.int .i64 a.t, .int .i64 a.n, .int .u64 a.b]] w (Ret w (badR (-1))) := by
  have HA := Lib.hid h
  clear h
  go_enter Try.func14, Try.ntmps14
  go_wp2_with fail
  have hj := refForm_any a.t a.n a.b ((w.alloc (.cells #[.int .i64 a.t, .int .i64 a.n, .int .u64 a.b] 24)).alloc (.cells #[.int .i64 0, .int .i64 0, .int .u64 0] 24))
  rw [show (Val.mk a.t a.n a.b).good = true from HA.out] at hj
  refine hj.mono ?_
  rintro e w1 ⟨rfl, hb⟩
  clear hj
  have hx := (box1_new w a 24).later hb
  replace hb := below_next (below_alloc (below_alloc (Below.refl w.heap.size w) _) _) hb
  obtain ⟨a0, a1, a2, r0, r1, r2, f0, f1, f2, sz, s0⟩ := hx
  go_wp2
  exact bodyPost_ret (v := .tuple #[.agg #[.int .i64 0, .int .i64 0, .int .u64 0], .int .i64 (-1)]) (by simp [results, Try.results14, go_sem, r0, r1, r2]) rfl ⟨rfl, by repeat (first | exact hb | exact Below.refl _ _ | refine below_setB ?_ (by omega) _ _ | refine below_alloc ?_ _)⟩

theorem rn_none (op : ByteArray) (a : Val) (w : World) (h : a.good = true) (h1 : (op.toList == [45]) = false) (h2 : (op.toList == [33]) = false) (h3 : (op.toList == [105, 110, 116]) = false) (h4 : (op.toList == [102, 108, 111, 97, 116]) = false) : Calls Try.prog 14 #[.string op, .agg #[.int .i64 a.t, .int .i64 a.n, .int .u64 a.b]] w (Ret w (badR (-1))) := by
  have HA := Lib.hid h
  clear h
  go_enter Try.func14, Try.ntmps14
  go_wp2_with fail
  have hj := refForm_any a.t a.n a.b ((w.alloc (.cells #[.int .i64 a.t, .int .i64 a.n, .int .u64 a.b] 24)).alloc (.cells #[.int .i64 0, .int .i64 0, .int .u64 0] 24))
  rw [show (Val.mk a.t a.n a.b).good = true from HA.out] at hj
  refine hj.mono ?_
  rintro e w1 ⟨rfl, hb⟩
  clear hj
  have hx := (box1_new w a 24).later hb
  replace hb := below_next (below_alloc (below_alloc (Below.refl w.heap.size w) _) _) hb
  obtain ⟨a0, a1, a2, r0, r1, r2, f0, f1, f2, sz, s0⟩ := hx
  go_wp2
  exact bodyPost_ret (v := .tuple #[.agg #[.int .i64 0, .int .i64 0, .int .u64 0], .int .i64 (-1)]) (by simp [results, Try.results14, go_sem, r0, r1, r2]) rfl ⟨rfl, by repeat (first | exact hb | exact Below.refl _ _ | refine below_setB ?_ (by omega) _ _ | refine below_alloc ?_ _)⟩

theorem rn_minus_int (op : ByteArray) (a : Val) (w : World) (h : a.good = true) (ho : op.toList = [45]) (h1 : (a.t == 1) = true) : Calls Try.prog 14 #[.string op, .agg #[.int .i64 a.t, .int .i64 a.n, .int .u64 a.b]] w (Ret w (okR (intA (wrap64 (-a.n))))) := by
  have HA := Lib.hid h
  clear h
  go_enter Try.func14, Try.ntmps14
  go_wp2_with fail
  have hj := refForm_any a.t a.n a.b ((w.alloc (.cells #[.int .i64 a.t, .int .i64 a.n, .int .u64 a.b] 24)).alloc (.cells #[.int .i64 0, .int .i64 0, .int .u64 0] 24))
  rw [show (Val.mk a.t a.n a.b).good = true from HA.out] at hj
  refine hj.mono ?_
  rintro e w1 ⟨rfl, hb⟩
  clear hj
  have hx := (box1_new w a 24).later hb
  replace hb := below_next (below_alloc (below_alloc (Below.refl w.heap.size w) _) _) hb
  obtain ⟨a0, a1, a2, r0, r1, r2, f0, f1, f2, sz, s0⟩ := hx
  go_wp2_with fail
  have hx : Box1 w.heap.size a w1 := ⟨a0, a1, a2, r0, r1, r2, f0, f1, f2, sz, s0⟩
  rw [not_add]
  refine (refNumber_any _ _).mono ?_
  rintro e w2 ⟨rfl, hbx⟩
  clear a0 a1 a2 r0 r1 r2 f0 f1 f2 sz s0
  obtain ⟨a0, a1, a2, r0, r1, r2, f0, f1, f2, sz, s0⟩ := hx.later hbx
  replace hb := below_next hb hbx
  clear hbx hx
  go_wp2
  exact bodyPost_ret (v := .tuple #[.agg #[.int .i64 1, .int .i64 (wrap64 (-a.n)), .int .u64 0], .int .i64 0]) (by simp [results, Try.results14, go_sem, r0, r1, r2]) rfl ⟨rfl, by repeat (first | exact hb | exact Below.refl _ _ | refine below_setB ?_ (by omega) _ _ | refine below_alloc ?_ _)⟩

theorem rn_not_bool (op : ByteArray) (a : Val) (w : World) (h : a.good = true) (ho : op.toList = [33]) (h1 : (a.t == 3) = true) : Calls Try.prog 14 #[.string op, .agg #[.int .i64 a.t, .int .i64 a.n, .int .u64 a.b]] w (Ret w (okR (boolA (a.n == 0)))) := by
  have HA := Lib.hid h
  clear h
  go_enter Try.func14, Try.ntmps14
  go_wp2_with fail
  have hj := refForm_any a.t a.n a.b ((w.alloc (.cells #[.int .i64 a.t, .int .i64 a.n, .int .u64 a.b] 24)).alloc (.cells #[.int .i64 0, .int .i64 0, .int .u64 0] 24))
  rw [show (Val.mk a.t a.n a.b).good = true from HA.out] at hj
  refine hj.mono ?_
  rintro e w1 ⟨rfl, hb⟩
  clear hj
  have hx := (box1_new w a 24).later hb
  replace hb := below_next (below_alloc (below_alloc (Below.refl w.heap.size w) _) _) hb
  obtain ⟨a0, a1, a2, r0, r1, r2, f0, f1, f2, sz, s0⟩ := hx
  go_wp2_with fail
  have hx : Box1 w.heap.size a w1 := ⟨a0, a1, a2, r0, r1, r2, f0, f1, f2, sz, s0⟩
  refine (refTruth_any _ _).mono ?_
  rintro e w2 ⟨rfl, hbx⟩
  clear a0 a1 a2 r0 r1 r2 f0 f1 f2 sz s0
  obtain ⟨a0, a1, a2, r0, r1, r2, f0, f1, f2, sz, s0⟩ := hx.later hbx
  replace hb := below_next hb hbx
  clear hbx hx
  go_wp2
  exact bodyPost_ret (v := .tuple #[.agg #[.int .i64 3, .int .i64 (b2i (a.n == 0)), .int .u64 0], .int .i64 0]) (by simp [results, Try.results14, go_sem, r0, r1, r2]) rfl ⟨rfl, by repeat (first | exact hb | exact Below.refl _ _ | refine below_setB ?_ (by omega) _ _ | refine below_alloc ?_ _)⟩

theorem rn_float_int (op : ByteArray) (a : Val) (w : World) (h : a.good = true) (ho : op.toList = [102, 108, 111, 97, 116]) (h1 : (a.t == 1) = true) : Calls Try.prog 14 #[.string op, .agg #[.int .i64 a.t, .int .i64 a.n, .int .u64 a.b]] w (Ret w (okR (fltV (floatOfInt .f64 a.n)))) := by
  have h91 := toBits_ext
  have h92 := run_toBits
  have h93 := fromBits_ext
  have h94 := run_fromBits
  have HA := Lib.hid h
  clear h
  go_enter Try.func14, Try.ntmps14
  go_wp2_with fail
  have hj := refForm_any a.t a.n a.b ((w.alloc (.cells #[.int .i64 a.t, .int .i64 a.n, .int .u64 a.b] 24)).alloc (.cells #[.int .i64 0, .int .i64 0, .int .u64 0] 24))
  rw [show (Val.mk a.t a.n a.b).good = true from HA.out] at hj
  refine hj.mono ?_
  rintro e w1 ⟨rfl, hb⟩
  clear hj
  have hx := (box1_new w a 24).later hb
  replace hb := below_next (below_alloc (below_alloc (Below.refl w.heap.size w) _) _) hb
  obtain ⟨a0, a1, a2, r0, r1, r2, f0, f1, f2, sz, s0⟩ := hx
  go_wp2
  exact bodyPost_ret (v := .tuple #[.agg #[.int .i64 2, .int .i64 0, .int .u64 (floatOfInt .f64 a.n : Nat)], .int .i64 0]) (by simp [results, Try.results14, go_sem, r0, r1, r2]) rfl ⟨rfl, by repeat (first | exact hb | exact Below.refl _ _ | refine below_setB ?_ (by omega) _ _ | refine below_alloc ?_ _)⟩

theorem rn_minus_flt (op : ByteArray) (a : Val) (w : World) (h : a.good = true) (ho : op.toList = [45]) (h0 : (a.t == 1) = false) (h1 : (a.t == 2) = true) (C : Nat) (hC : bits BinOp.xor IntKind.u64 a.b 9223372036854775808 = (C : Int)) : Calls Try.prog 14 #[.string op, .agg #[.int .i64 a.t, .int .i64 a.n, .int .u64 a.b]] w (Ret w (okR (fltV (cameB C)))) := by
  have h91 := toBits_ext
  have h92 := run_toBits
  have h93 := fromBits_ext
  have h94 := run_fromBits
  have HA := Lib.hid h
  clear h
  go_enter Try.func14, Try.ntmps14
  go_wp2_with fail
  have hj := refForm_any a.t a.n a.b ((w.alloc (.cells #[.int .i64 a.t, .int .i64 a.n, .int .u64 a.b] 24)).alloc (.cells #[.int .i64 0, .int .i64 0, .int .u64 0] 24))
  rw [show (Val.mk a.t a.n a.b).good = true from HA.out] at hj
  refine hj.mono ?_
  rintro e w1 ⟨rfl, hb⟩
  clear hj
  have hx := (box1_new w a 24).later hb
  replace hb := below_next (below_alloc (below_alloc (Below.refl w.heap.size w) _) _) hb
  obtain ⟨a0, a1, a2, r0, r1, r2, f0, f1, f2, sz, s0⟩ := hx
  go_wp2_with fail
  have hx : Box1 w.heap.size a w1 := ⟨a0, a1, a2, r0, r1, r2, f0, f1, f2, sz, s0⟩
  refine (refFloat_any _ _).mono ?_
  rintro e w2 ⟨rfl, hbx⟩
  clear a0 a1 a2 r0 r1 r2 f0 f1 f2 sz s0
  obtain ⟨a0, a1, a2, r0, r1, r2, f0, f1, f2, sz, s0⟩ := hx.later hbx
  replace hb := below_next hb hbx
  clear hbx hx
  go_wp2
  exact bodyPost_ret (v := .tuple #[.agg #[.int .i64 2, .int .i64 0, .int .u64 (cameB C : Nat)], .int .i64 0]) (by simp [results, Try.results14, go_sem, r0, r1, r2]) rfl ⟨rfl, by repeat (first | exact hb | exact Below.refl _ _ | refine below_setB ?_ (by omega) _ _ | refine below_alloc ?_ _)⟩

end Go.Proofs.Ytdeabmijoaepcaa
