/-
  The walk of package value's Binary.
-/
import Derived.Test.YtdeabmijoaepcaaVal4
import Derived.Deep.RegionHeld3
namespace Go.Proofs.Ytdeabmijoaepcaa
open Go.RowKit Go.Stk

/-- What Binary makes of two values. -/
def binR (l : List UInt8) (a b : Val) : Value :=
  if a.good = false then badR (-1) else if b.good = false then badR (-1) else if a.t ≠ b.t then badR (-1)
  else if a.t = 1 then (match cmpV l (a.n == b.n) (a.n != b.n) (decide (a.n < b.n)) (decide (a.n ≤ b.n)) (decide (b.n < a.n)) (decide (b.n ≤ a.n)) with | some x => okR (boolA x) | none => intsR l a.n b.n)
  else if a.t = 2 then (match cmpV l (FloatKind.f64.format.order a.b.toNat b.b.toNat == some .eq) (FloatKind.f64.format.order a.b.toNat b.b.toNat != some .eq) (FloatKind.f64.format.order a.b.toNat b.b.toNat == some .lt) (FloatKind.f64.format.order a.b.toNat b.b.toNat == some .lt || FloatKind.f64.format.order a.b.toNat b.b.toNat == some .eq) (FloatKind.f64.format.order a.b.toNat b.b.toNat == some .gt) (FloatKind.f64.format.order a.b.toNat b.b.toNat == some .gt || FloatKind.f64.format.order a.b.toNat b.b.toNat == some .eq) with | some x => okR (boolA x) | none => floatsR l a.b.toNat b.b.toNat)
  else boolsR l (a.n == 1) (b.n == 1)

/-- Two boxes and a result's cells, just laid, seen later on. -/
structure Boxes (B : Nat) (a b : Val) (w : World) : Prop where
  a0 : w.cell? ⟨B, 0, none⟩ = some (.int .i64 a.t)
  a1 : w.cell? ⟨B, 1, none⟩ = some (.int .i64 a.n)
  a2 : w.cell? ⟨B, 2, none⟩ = some (.int .u64 a.b)
  b0 : w.cell? ⟨B + 1, 0, none⟩ = some (.int .i64 b.t)
  b1 : w.cell? ⟨B + 1, 1, none⟩ = some (.int .i64 b.n)
  b2 : w.cell? ⟨B + 1, 2, none⟩ = some (.int .u64 b.b)
  r0 : w.cell? ⟨B + 1 + 1, 0, none⟩ = some (.int .i64 0)
  r1 : w.cell? ⟨B + 1 + 1, 1, none⟩ = some (.int .i64 0)
  r2 : w.cell? ⟨B + 1 + 1, 2, none⟩ = some (.int .u64 0)
  f0 : w.frozen? ⟨B + 1 + 1, 0, none⟩ = false
  f1 : w.frozen? ⟨B + 1 + 1, 1, none⟩ = false
  f2 : w.frozen? ⟨B + 1 + 1, 2, none⟩ = false
  sz : B + 1 + 1 < w.heap.size
  s0 : B < w.heap.size
  s1 : B + 1 < w.heap.size
theorem Boxes.later {B : Nat} {a b : Val} {w w1 : World} (h : Boxes B a b w) (hb : Below w.heap.size w w1) : Boxes B a b w1 := by
  have hs := h.sz
  have h2 := hb.size
  exact ⟨cell_later hb h.a0, cell_later hb h.a1, cell_later hb h.a2, cell_later hb h.b0, cell_later hb h.b1, cell_later hb h.b2, cell_later hb h.r0, cell_later hb h.r1, cell_later hb h.r2,
    (hb.frozen (p := ⟨B + 1 + 1, 0, none⟩) hs).trans h.f0, (hb.frozen (p := ⟨B + 1 + 1, 1, none⟩) hs).trans h.f1, (hb.frozen (p := ⟨B + 1 + 1, 2, none⟩) hs).trans h.f2, by omega, by omega, by omega⟩
theorem boxes_new (w : World) (a b : Val) (T : TypeId) : Boxes w.heap.size a b (((w.alloc (.cells #[.int .i64 a.t, .int .i64 a.n, .int .u64 a.b] T)).alloc (.cells #[.int .i64 b.t, .int .i64 b.n, .int .u64 b.b] T)).alloc (.cells #[.int .i64 0, .int .i64 0, .int .u64 0] T)) := by
  have h0 : (((w.alloc (.cells #[.int .i64 a.t, .int .i64 a.n, .int .u64 a.b] T)).alloc (.cells #[.int .i64 b.t, .int .i64 b.n, .int .u64 b.b] T)).alloc (.cells #[.int .i64 0, .int .i64 0, .int .u64 0] T)).heap[w.heap.size]? = some (.cells #[.int .i64 a.t, .int .i64 a.n, .int .u64 a.b] T (0, 0)) := by
    show (((w.heap.push _).push _).push _)[w.heap.size]? = _
    simp only [Array.getElem?_push, Array.size_push]; rw [if_neg (by omega), if_neg (by omega), if_pos trivial]
  have h1 : (((w.alloc (.cells #[.int .i64 a.t, .int .i64 a.n, .int .u64 a.b] T)).alloc (.cells #[.int .i64 b.t, .int .i64 b.n, .int .u64 b.b] T)).alloc (.cells #[.int .i64 0, .int .i64 0, .int .u64 0] T)).heap[w.heap.size + 1]? = some (.cells #[.int .i64 b.t, .int .i64 b.n, .int .u64 b.b] T (0, 0)) := by
    show (((w.heap.push _).push _).push _)[w.heap.size + 1]? = _
    simp only [Array.getElem?_push, Array.size_push]; rw [if_neg (by omega), if_pos trivial]
  have h2 : (((w.alloc (.cells #[.int .i64 a.t, .int .i64 a.n, .int .u64 a.b] T)).alloc (.cells #[.int .i64 b.t, .int .i64 b.n, .int .u64 b.b] T)).alloc (.cells #[.int .i64 0, .int .i64 0, .int .u64 0] T)).heap[w.heap.size + 1 + 1]? = some (.cells #[.int .i64 0, .int .i64 0, .int .u64 0] T (0, 0)) := by
    show (((w.heap.push _).push _).push _)[w.heap.size + 2]? = _
    simp only [Array.getElem?_push, Array.size_push]; rw [if_pos trivial]
  constructor
  all_goals first
    | simp only [World.cell?, h0]; rfl
    | simp only [World.cell?, h1]; rfl
    | simp only [World.cell?, h2]; rfl
    | simp only [World.frozen?, h2]; rfl
    | (simp; done)
    | (simp; omega)

theorem okR_form (v : Val) : ∃ t n q f : Int, okR v.agg = .tuple #[.agg #[.int .i64 t, .int .i64 n, .int .u64 q], .int .i64 f] := ⟨_, _, _, _, rfl⟩
theorem badR_form (f : Int) : ∃ t n q f' : Int, badR f = .tuple #[.agg #[.int .i64 t, .int .i64 n, .int .u64 q], .int .i64 f'] := ⟨_, _, _, _, rfl⟩
theorem intsR_form (l : List UInt8) (x y : Int) : ∃ t n q f : Int, intsR l x y = .tuple #[.agg #[.int .i64 t, .int .i64 n, .int .u64 q], .int .i64 f] := by
  unfold intsR
  repeat' split
  all_goals exact ⟨_, _, _, _, rfl⟩
theorem floatsR_form (l : List UInt8) (x y : Nat) : ∃ t n q f : Int, floatsR l x y = .tuple #[.agg #[.int .i64 t, .int .i64 n, .int .u64 q], .int .i64 f] := by
  unfold floatsR
  repeat' split
  all_goals exact ⟨_, _, _, _, rfl⟩
theorem boolsR_form (l : List UInt8) (x y : Bool) : ∃ t n q f : Int, boolsR l x y = .tuple #[.agg #[.int .i64 t, .int .i64 n, .int .u64 q], .int .i64 f] := by
  unfold boolsR
  repeat' split
  all_goals exact ⟨_, _, _, _, rfl⟩
theorem below_setB {w W : World} {B : Nat} (h : Below w.heap.size w W) (hB : w.heap.size ≤ B) (i : Nat) (v : Value) : Below w.heap.size w (W.setCell ⟨B, i, none⟩ v) := h.setCell hB _

theorem bin_bad1 (op : ByteArray) (a b : Val) (w : World) (h : a.good = false) : Calls Try.prog 15 #[.string op, .agg #[.int .i64 a.t, .int .i64 a.n, .int .u64 a.b], .agg #[.int .i64 b.t, .int .i64 b.n, .int .u64 b.b]] w (Ret w (badR (-1))) := by
  have HA := Lib.hid h
  clear h
  go_enter Try.func15, Try.ntmps15
  go_wp2_with fail
  have hj := valGood_any a.t a.n a.b (((w.alloc (.cells #[.int .i64 a.t, .int .i64 a.n, .int .u64 a.b] 24)).alloc (.cells #[.int .i64 b.t, .int .i64 b.n, .int .u64 b.b] 24)).alloc (.cells #[.int .i64 0, .int .i64 0, .int .u64 0] 24))
  rw [show (Val.mk a.t a.n a.b).good = false from HA.out] at hj
  refine hj.mono ?_
  rintro e w1 ⟨rfl, hb⟩
  clear hj
  have hx := (boxes_new w a b 24).later hb
  replace hb := below_next (below_alloc (below_alloc (below_alloc (Below.refl w.heap.size w) _) _) _) hb
  obtain ⟨a0, a1, a2, b0, b1, b2, r0, r1, r2, f0, f1, f2, sz, s0, s1⟩ := hx
  go_wp2
  exact bodyPost_ret (v := .tuple #[.agg #[.int .i64 0, .int .i64 0, .int .u64 0], .int .i64 (-1)]) (by simp [results, Try.results15, go_sem, r0, r1, r2]) rfl ⟨rfl, by repeat (first | exact hb | exact Below.refl _ _ | refine below_setB ?_ (by omega) _ _ | refine below_alloc ?_ _)⟩
theorem bin_bad2 (op : ByteArray) (a b : Val) (w : World) (h : a.good = true) (h2 : b.good = false) : Calls Try.prog 15 #[.string op, .agg #[.int .i64 a.t, .int .i64 a.n, .int .u64 a.b], .agg #[.int .i64 b.t, .int .i64 b.n, .int .u64 b.b]] w (Ret w (badR (-1))) := by
  have HA := Lib.hid h
  have HB := Lib.hid h2
  clear h h2
  go_enter Try.func15, Try.ntmps15
  go_wp2_with fail
  have hj := valGood_any a.t a.n a.b (((w.alloc (.cells #[.int .i64 a.t, .int .i64 a.n, .int .u64 a.b] 24)).alloc (.cells #[.int .i64 b.t, .int .i64 b.n, .int .u64 b.b] 24)).alloc (.cells #[.int .i64 0, .int .i64 0, .int .u64 0] 24))
  rw [show (Val.mk a.t a.n a.b).good = true from HA.out] at hj
  refine hj.mono ?_
  rintro e w1 ⟨rfl, hb⟩
  clear hj
  have hx := (boxes_new w a b 24).later hb
  replace hb := below_next (below_alloc (below_alloc (below_alloc (Below.refl w.heap.size w) _) _) _) hb
  obtain ⟨a0, a1, a2, b0, b1, b2, r0, r1, r2, f0, f1, f2, sz, s0, s1⟩ := hx
  go_wp2_with fail
  have hx : Boxes w.heap.size a b w1 := ⟨a0, a1, a2, b0, b1, b2, r0, r1, r2, f0, f1, f2, sz, s0, s1⟩
  have hj := valGood_any b.t b.n b.b w1
  rw [show (Val.mk b.t b.n b.b).good = false from HB.out] at hj
  refine hj.mono ?_
  rintro e w2 ⟨rfl, hbx⟩
  clear hj a0 a1 a2 b0 b1 b2 r0 r1 r2 f0 f1 f2 sz s0 s1
  obtain ⟨a0, a1, a2, b0, b1, b2, r0, r1, r2, f0, f1, f2, sz, s0, s1⟩ := hx.later hbx
  replace hb := below_next hb hbx
  clear hbx hx
  go_wp2
  exact bodyPost_ret (v := .tuple #[.agg #[.int .i64 0, .int .i64 0, .int .u64 0], .int .i64 (-1)]) (by simp [results, Try.results15, go_sem, r0, r1, r2]) rfl ⟨rfl, by repeat (first | exact hb | exact Below.refl _ _ | refine below_setB ?_ (by omega) _ _ | refine below_alloc ?_ _)⟩
theorem bin_bad3 (op : ByteArray) (a b : Val) (w : World) (h : a.good = true) (h2 : b.good = true) (h3 : (a.t != b.t) = true) : Calls Try.prog 15 #[.string op, .agg #[.int .i64 a.t, .int .i64 a.n, .int .u64 a.b], .agg #[.int .i64 b.t, .int .i64 b.n, .int .u64 b.b]] w (Ret w (badR (-1))) := by
  have HA := Lib.hid h
  have HB := Lib.hid h2
  clear h h2
  go_enter Try.func15, Try.ntmps15
  go_wp2_with fail
  have hj := valGood_any a.t a.n a.b (((w.alloc (.cells #[.int .i64 a.t, .int .i64 a.n, .int .u64 a.b] 24)).alloc (.cells #[.int .i64 b.t, .int .i64 b.n, .int .u64 b.b] 24)).alloc (.cells #[.int .i64 0, .int .i64 0, .int .u64 0] 24))
  rw [show (Val.mk a.t a.n a.b).good = true from HA.out] at hj
  refine hj.mono ?_
  rintro e w1 ⟨rfl, hb⟩
  clear hj
  have hx := (boxes_new w a b 24).later hb
  replace hb := below_next (below_alloc (below_alloc (below_alloc (Below.refl w.heap.size w) _) _) _) hb
  obtain ⟨a0, a1, a2, b0, b1, b2, r0, r1, r2, f0, f1, f2, sz, s0, s1⟩ := hx
  go_wp2_with fail
  have hx : Boxes w.heap.size a b w1 := ⟨a0, a1, a2, b0, b1, b2, r0, r1, r2, f0, f1, f2, sz, s0, s1⟩
  have hj := valGood_any b.t b.n b.b w1
  rw [show (Val.mk b.t b.n b.b).good = true from HB.out] at hj
  refine hj.mono ?_
  rintro e w2 ⟨rfl, hbx⟩
  clear hj a0 a1 a2 b0 b1 b2 r0 r1 r2 f0 f1 f2 sz s0 s1
  obtain ⟨a0, a1, a2, b0, b1, b2, r0, r1, r2, f0, f1, f2, sz, s0, s1⟩ := hx.later hbx
  replace hb := below_next hb hbx
  clear hbx hx
  go_wp2
  exact bodyPost_ret (v := .tuple #[.agg #[.int .i64 0, .int .i64 0, .int .u64 0], .int .i64 (-1)]) (by simp [results, Try.results15, go_sem, r0, r1, r2]) rfl ⟨rfl, by repeat (first | exact hb | exact Below.refl _ _ | refine below_setB ?_ (by omega) _ _ | refine below_alloc ?_ _)⟩

theorem bin_int_cmp (op : ByteArray) (a b : Val) (w : World) (z : Bool) (h : a.good = true) (h2 : b.good = true) (h3 : (a.t != b.t) = false) (h1 : (a.t == 1) = true) (hc : (cmpV op.toList (a.n == b.n) (a.n != b.n) (decide (a.n < b.n)) (decide (a.n ≤ b.n)) (decide (b.n < a.n)) (decide (b.n ≤ a.n))) = some z) : Calls Try.prog 15 #[.string op, .agg #[.int .i64 a.t, .int .i64 a.n, .int .u64 a.b], .agg #[.int .i64 b.t, .int .i64 b.n, .int .u64 b.b]] w (Ret w (okR (boolA z))) := by
  have HA := Lib.hid h
  have HB := Lib.hid h2
  have HC := Lib.hid hc
  clear h h2 hc
  go_enter Try.func15, Try.ntmps15
  go_wp2_with fail
  have hj := valGood_any a.t a.n a.b (((w.alloc (.cells #[.int .i64 a.t, .int .i64 a.n, .int .u64 a.b] 24)).alloc (.cells #[.int .i64 b.t, .int .i64 b.n, .int .u64 b.b] 24)).alloc (.cells #[.int .i64 0, .int .i64 0, .int .u64 0] 24))
  rw [show (Val.mk a.t a.n a.b).good = true from HA.out] at hj
  refine hj.mono ?_
  rintro e w1 ⟨rfl, hb⟩
  clear hj
  have hx := (boxes_new w a b 24).later hb
  replace hb := below_next (below_alloc (below_alloc (below_alloc (Below.refl w.heap.size w) _) _) _) hb
  obtain ⟨a0, a1, a2, b0, b1, b2, r0, r1, r2, f0, f1, f2, sz, s0, s1⟩ := hx
  go_wp2_with fail
  have hx : Boxes w.heap.size a b w1 := ⟨a0, a1, a2, b0, b1, b2, r0, r1, r2, f0, f1, f2, sz, s0, s1⟩
  have hj := valGood_any b.t b.n b.b w1
  rw [show (Val.mk b.t b.n b.b).good = true from HB.out] at hj
  refine hj.mono ?_
  rintro e w2 ⟨rfl, hbx⟩
  clear hj a0 a1 a2 b0 b1 b2 r0 r1 r2 f0 f1 f2 sz s0 s1
  obtain ⟨a0, a1, a2, b0, b1, b2, r0, r1, r2, f0, f1, f2, sz, s0, s1⟩ := hx.later hbx
  replace hb := below_next hb hbx
  clear hbx hx
  go_wp2_with fail
  have hj := cmpInt_any op a.n b.n w2
  rw [HC.out] at hj
  refine hj.mono ?_
  rintro e w3 ⟨rfl, hbx⟩
  clear hj
  have hx := (Boxes.mk a0 a1 a2 b0 b1 b2 r0 r1 r2 f0 f1 f2 sz s0 s1).later hbx
  clear a0 a1 a2 b0 b1 b2 r0 r1 r2 f0 f1 f2 sz s0 s1
  obtain ⟨a0, a1, a2, b0, b1, b2, r0, r1, r2, f0, f1, f2, sz, s0, s1⟩ := hx
  replace hb := below_next hb hbx
  clear hbx
  rw [show cmpRes (some z) = .tuple #[.agg #[.int .i64 3, .int .i64 (b2i z), .int .u64 0], .bool true] from rfl]
  go_wp2
  exact bodyPost_ret (v := .tuple #[.agg #[.int .i64 3, .int .i64 (b2i z), .int .u64 0], .int .i64 0]) (by simp [results, Try.results15, go_sem, r0, r1, r2, sz]) rfl ⟨rfl, by repeat (first | exact hb | exact Below.refl _ _ | refine below_setB ?_ (by omega) _ _ | refine below_alloc ?_ _)⟩
theorem bin_int_op (op : ByteArray) (a b : Val) (w : World) (h : a.good = true) (h2 : b.good = true) (h3 : (a.t != b.t) = false) (h1 : (a.t == 1) = true) (hc : (cmpV op.toList (a.n == b.n) (a.n != b.n) (decide (a.n < b.n)) (decide (a.n ≤ b.n)) (decide (b.n < a.n)) (decide (b.n ≤ a.n))) = none) : Calls Try.prog 15 #[.string op, .agg #[.int .i64 a.t, .int .i64 a.n, .int .u64 a.b], .agg #[.int .i64 b.t, .int .i64 b.n, .int .u64 b.b]] w (Ret w (intsR op.toList a.n b.n)) := by
  have HA := Lib.hid h
  have HB := Lib.hid h2
  have HC := Lib.hid hc
  clear h h2 hc
  go_enter Try.func15, Try.ntmps15
  go_wp2_with fail
  have hj := valGood_any a.t a.n a.b (((w.alloc (.cells #[.int .i64 a.t, .int .i64 a.n, .int .u64 a.b] 24)).alloc (.cells #[.int .i64 b.t, .int .i64 b.n, .int .u64 b.b] 24)).alloc (.cells #[.int .i64 0, .int .i64 0, .int .u64 0] 24))
  rw [show (Val.mk a.t a.n a.b).good = true from HA.out] at hj
  refine hj.mono ?_
  rintro e w1 ⟨rfl, hb⟩
  clear hj
  have hx := (boxes_new w a b 24).later hb
  replace hb := below_next (below_alloc (below_alloc (below_alloc (Below.refl w.heap.size w) _) _) _) hb
  obtain ⟨a0, a1, a2, b0, b1, b2, r0, r1, r2, f0, f1, f2, sz, s0, s1⟩ := hx
  go_wp2_with fail
  have hx : Boxes w.heap.size a b w1 := ⟨a0, a1, a2, b0, b1, b2, r0, r1, r2, f0, f1, f2, sz, s0, s1⟩
  have hj := valGood_any b.t b.n b.b w1
  rw [show (Val.mk b.t b.n b.b).good = true from HB.out] at hj
  refine hj.mono ?_
  rintro e w2 ⟨rfl, hbx⟩
  clear hj a0 a1 a2 b0 b1 b2 r0 r1 r2 f0 f1 f2 sz s0 s1
  obtain ⟨a0, a1, a2, b0, b1, b2, r0, r1, r2, f0, f1, f2, sz, s0, s1⟩ := hx.later hbx
  replace hb := below_next hb hbx
  clear hbx hx
  go_wp2_with fail
  have hj := cmpInt_any op a.n b.n w2
  rw [HC.out] at hj
  refine hj.mono ?_
  rintro e w3 ⟨rfl, hbx⟩
  clear hj
  have hx := (Boxes.mk a0 a1 a2 b0 b1 b2 r0 r1 r2 f0 f1 f2 sz s0 s1).later hbx
  clear a0 a1 a2 b0 b1 b2 r0 r1 r2 f0 f1 f2 sz s0 s1
  obtain ⟨a0, a1, a2, b0, b1, b2, r0, r1, r2, f0, f1, f2, sz, s0, s1⟩ := hx
  replace hb := below_next hb hbx
  clear hbx
  rw [show cmpRes none = .tuple #[.agg #[.int .i64 0, .int .i64 0, .int .u64 0], .bool false] from rfl]
  go_wp2_with fail
  obtain ⟨t, n, q, f, E⟩ := intsR_form op.toList a.n b.n
  have hj := ints_any op a.n b.n (w3.alloc (.cells #[.int .i64 0, .int .i64 0, .int .u64 0] 24))
  rw [E] at hj
  refine hj.mono ?_
  rintro e w4 ⟨rfl, hbx⟩
  clear hj
  have hx := (Boxes.mk a0 a1 a2 b0 b1 b2 r0 r1 r2 f0 f1 f2 sz s0 s1).later (below_then (below_alloc (Below.refl w3.heap.size w3) (.cells #[.int .i64 0, .int .i64 0, .int .u64 0] 24)) (by simp) hbx)
  clear a0 a1 a2 b0 b1 b2 r0 r1 r2 f0 f1 f2 sz s0 s1
  obtain ⟨a0, a1, a2, b0, b1, b2, r0, r1, r2, f0, f1, f2, sz, s0, s1⟩ := hx
  replace hb := below_next (below_alloc hb (.cells #[.int .i64 0, .int .i64 0, .int .u64 0] 24)) hbx
  clear hbx
  have EH := Lib.hid E
  clear E
  go_wp2
  exact bodyPost_ret (v := .tuple #[.agg #[.int .i64 t, .int .i64 n, .int .u64 q], .int .i64 f]) (by simp [results, Try.results15, go_sem, r0, r1, r2]) rfl ⟨by rw [EH.out], by repeat (first | exact hb | exact Below.refl _ _ | refine below_setB ?_ (by omega) _ _ | refine below_alloc ?_ _)⟩
/-- The boxes, and what lay there before. -/
structure Kb (B : Nat) (a b : Val) (w W : World) : Prop where
  bx : Boxes B a b W
  bl : Below w.heap.size w W
theorem Kb.later {B : Nat} {a b : Val} {w W W' : World} (h : Kb B a b w W) (hb : Below W.heap.size W W') : Kb B a b w W' := ⟨h.bx.later hb, below_next h.bl hb⟩
theorem Kb.cells {B : Nat} {a b : Val} {w W : World} (h : Kb B a b w W) : W.cell? ⟨B, 0, none⟩ = some (.int .i64 a.t) ∧ W.cell? ⟨B, 1, none⟩ = some (.int .i64 a.n) ∧ W.cell? ⟨B, 2, none⟩ = some (.int .u64 a.b) ∧
    W.cell? ⟨B + 1, 0, none⟩ = some (.int .i64 b.t) ∧ W.cell? ⟨B + 1, 1, none⟩ = some (.int .i64 b.n) ∧ W.cell? ⟨B + 1, 2, none⟩ = some (.int .u64 b.b) ∧ Kb B a b w W := ⟨h.bx.a0, h.bx.a1, h.bx.a2, h.bx.b0, h.bx.b1, h.bx.b2, h⟩
/-- The cells of a local result. -/
structure Lc (A B : Nat) (W : World) : Prop where
  lo : A + 1 + 1 < B
  c0 : W.cell? ⟨B, 0, none⟩ = some (.int .i64 0)
  c1 : W.cell? ⟨B, 1, none⟩ = some (.int .i64 0)
  c2 : W.cell? ⟨B, 2, none⟩ = some (.int .u64 0)
  f0 : W.frozen? ⟨B, 0, none⟩ = false
  f1 : W.frozen? ⟨B, 1, none⟩ = false
  f2 : W.frozen? ⟨B, 2, none⟩ = false
  sz : B < W.heap.size
theorem lc_new {A : Nat} {a b : Val} {w W : World} (hk : Kb A a b w W) (T : TypeId) : Lc A W.heap.size (W.alloc (.cells #[.int .i64 0, .int .i64 0, .int .u64 0] T)) := by
  have h2 : (W.alloc (.cells #[.int .i64 0, .int .i64 0, .int .u64 0] T)).heap[W.heap.size]? = some (.cells #[.int .i64 0, .int .i64 0, .int .u64 0] T (0, 0)) := by
    show ((W.heap.push _))[W.heap.size]? = _
    simp only [Array.getElem?_push]; rw [if_pos trivial]
  constructor
  all_goals first
    | exact hk.bx.sz
    | simp only [World.cell?, h2]; rfl
    | simp only [World.frozen?, h2]; rfl
    | (simp; done)
theorem Lc.later {A B : Nat} {W W' : World} (h : Lc A B W) (hb : Below W.heap.size W W') : Lc A B W' := by
  have hs := h.sz
  have h2 := hb.size
  exact ⟨h.lo, cell_later hb h.c0, cell_later hb h.c1, cell_later hb h.c2, (hb.frozen (p := ⟨B, 0, none⟩) hs).trans h.f0, (hb.frozen (p := ⟨B, 1, none⟩) hs).trans h.f1, (hb.frozen (p := ⟨B, 2, none⟩) hs).trans h.f2, by omega⟩
theorem Lc.step {A B : Nat} {W W' : World} {G : Prop} (hl : Lc A B W) (hb : Below W.heap.size W W') (k : Lc A B W' → G) : G := k (hl.later hb)
theorem Lc.cells {A B : Nat} {W : World} (h : Lc A B W) : A + 1 + 1 < B ∧ W.cell? ⟨B, 0, none⟩ = some (.int .i64 0) ∧ W.cell? ⟨B, 1, none⟩ = some (.int .i64 0) ∧ W.cell? ⟨B, 2, none⟩ = some (.int .u64 0) ∧ W.frozen? ⟨B, 0, none⟩ = false ∧ W.frozen? ⟨B, 1, none⟩ = false ∧ W.frozen? ⟨B, 2, none⟩ = false := ⟨h.lo, h.c0, h.c1, h.c2, h.f0, h.f1, h.f2⟩
theorem cell_set_ne {W : World} {p q : Addr} {v : Value} (h : p.block ≠ q.block) : (W.setCell q v).cell? p = W.cell? p := World.cell?_setCell_far W q p v (Ne.symm h)
theorem Kb.set {A B : Nat} {a b : Val} {w W : World} (h : Kb A a b w W) (hB : A + 1 + 1 < B) (hw : w.heap.size ≤ A) (i : Nat) (v : Value) : Kb A a b w (W.setCell ⟨B, i, none⟩ v) :=
  ⟨⟨by rw [cell_set_ne (by simp; omega)]; exact h.bx.a0, by rw [cell_set_ne (by simp; omega)]; exact h.bx.a1, by rw [cell_set_ne (by simp; omega)]; exact h.bx.a2, by rw [cell_set_ne (by simp; omega)]; exact h.bx.b0, by rw [cell_set_ne (by simp; omega)]; exact h.bx.b1, by rw [cell_set_ne (by simp; omega)]; exact h.bx.b2, by rw [cell_set_ne (by simp; omega)]; exact h.bx.r0, by rw [cell_set_ne (by simp; omega)]; exact h.bx.r1, by rw [cell_set_ne (by simp; omega)]; exact h.bx.r2,
    by simpa using h.bx.f0, by simpa using h.bx.f1, by simpa using h.bx.f2, by simpa using h.bx.sz, by simpa using h.bx.s0, by simpa using h.bx.s1⟩, h.bl.setCell (p := ⟨B, i, none⟩) (show w.heap.size ≤ B by omega) _⟩
theorem Kb.set3 {A B : Nat} {a b : Val} {w W : World} (h : Kb A a b w W) (hB : A + 1 + 1 < B) (hw : w.heap.size ≤ A) (i j k : Nat) (u v z : Value) : Kb A a b w (((W.setCell ⟨B, i, none⟩ u).setCell ⟨B, j, none⟩ v).setCell ⟨B, k, none⟩ z) := ((h.set hB hw i u).set hB hw j v).set hB hw k z
end Go.Proofs.Ytdeabmijoaepcaa
