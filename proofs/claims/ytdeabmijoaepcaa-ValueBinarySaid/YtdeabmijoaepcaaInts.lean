/-
  The walk of ValueInts.
-/
import Derived.Test.YtdeabmijoaepcaaAlive
namespace Go.Proofs.Ytdeabmijoaepcaa
open Go.RowKit Go.Stk

theorem L3.all {B : Nat} {a b c : Value} {W : World} (h : L3 B a b c W) : W.cell? ⟨B, 0, none⟩ = some a ∧ W.cell? ⟨B, 1, none⟩ = some b ∧ W.cell? ⟨B, 2, none⟩ = some c ∧ B < W.heap.size := ⟨h.c0, h.c1, h.c2, h.sz⟩
theorem lc3_new2 (W : World) (o : Obj) (a b c : Value) (T : TypeId) : L3 (W.heap.size + 1) a b c ((W.alloc o).alloc (.cells #[a, b, c] T)) := by
  have := lc3_new (W.alloc o) a b c T
  rwa [show (W.alloc o).heap.size = W.heap.size + 1 by simp] at this
theorem binI_op (op : ByteArray) (x y : Int) (w : World) (hc : cmpV op.toList (x == y) (x != y) (decide (x < y)) (decide (x ≤ y)) (decide (y < x)) (decide (y ≤ x)) = none) : Calls Try.prog 15 #[.string op, .agg #[.int .i64 1, .int .i64 x, .int .u64 0], .agg #[.int .i64 1, .int .i64 y, .int .u64 0]] w (Ret w (intsR op.toList x y)) :=
  bin_int_op op ⟨1, x, 0⟩ ⟨1, y, 0⟩ w rfl rfl rfl rfl hc
theorem binI_cmp (op : ByteArray) (x y : Int) (w : World) (z : Bool) (hc : cmpV op.toList (x == y) (x != y) (decide (x < y)) (decide (x ≤ y)) (decide (y < x)) (decide (y ≤ x)) = some z) : Calls Try.prog 15 #[.string op, .agg #[.int .i64 1, .int .i64 x, .int .u64 0], .agg #[.int .i64 1, .int .i64 y, .int .u64 0]] w (Ret w (okR (boolA z))) :=
  bin_int_cmp op ⟨1, x, 0⟩ ⟨1, y, 0⟩ w z rfl rfl rfl rfl hc

/-- An int as the program's value; with its fault 0. -/
def okI (n : Int) : Value := .tuple #[.agg #[.int .i64 1, .int .i64 n, .int .u64 0], .int .i64 0]
theorem binI_add (x y s : Int) (w : World) (h : wrap64 (x + y) = s) : Calls Try.prog 15 #[.string ⟨#[43]⟩, .agg #[.int .i64 1, .int .i64 x, .int .u64 0], .agg #[.int .i64 1, .int .i64 y, .int .u64 0]] w (Ret w (.tuple #[.agg #[.int .i64 1, .int .i64 s, .int .u64 0], .int .i64 0])) := by
  have := binI_op ⟨#[43]⟩ x y w (by rw [bl]; rfl)
  rw [bl] at this; subst h; exact this
theorem binI_sub (x y s : Int) (w : World) (h : wrap64 (x - y) = s) : Calls Try.prog 15 #[.string ⟨#[45]⟩, .agg #[.int .i64 1, .int .i64 x, .int .u64 0], .agg #[.int .i64 1, .int .i64 y, .int .u64 0]] w (Ret w (.tuple #[.agg #[.int .i64 1, .int .i64 s, .int .u64 0], .int .i64 0])) := by
  have := binI_op ⟨#[45]⟩ x y w (by rw [bl]; rfl)
  rw [bl] at this; subst h; exact this
theorem binI_mul (x y s : Int) (w : World) (h : wrap64 (x * y) = s) : Calls Try.prog 15 #[.string ⟨#[42]⟩, .agg #[.int .i64 1, .int .i64 x, .int .u64 0], .agg #[.int .i64 1, .int .i64 y, .int .u64 0]] w (Ret w (.tuple #[.agg #[.int .i64 1, .int .i64 s, .int .u64 0], .int .i64 0])) := by
  have := binI_op ⟨#[42]⟩ x y w (by rw [bl]; rfl)
  rw [bl] at this; subst h; exact this
theorem binI_quo (x y s : Int) (w : World) (hy : y ≠ 0) (h : wrap64 (x.tdiv y) = s) : Calls Try.prog 15 #[.string ⟨#[47]⟩, .agg #[.int .i64 1, .int .i64 x, .int .u64 0], .agg #[.int .i64 1, .int .i64 y, .int .u64 0]] w (Ret w (.tuple #[.agg #[.int .i64 1, .int .i64 s, .int .u64 0], .int .i64 0])) := by
  have := binI_op ⟨#[47]⟩ x y w (by rw [bl]; rfl)
  rw [bl, show intsR (Array.toList #[47]) x y = okR (intA (wrap64 (x.tdiv y))) by simp [intsR, hy]] at this; subst h; exact this
theorem binI_rem (x y s : Int) (w : World) (hy : y ≠ 0) (h : x.tmod y = s) : Calls Try.prog 15 #[.string ⟨#[37]⟩, .agg #[.int .i64 1, .int .i64 x, .int .u64 0], .agg #[.int .i64 1, .int .i64 y, .int .u64 0]] w (Ret w (.tuple #[.agg #[.int .i64 1, .int .i64 s, .int .u64 0], .int .i64 0])) := by
  have := binI_op ⟨#[37]⟩ x y w (by rw [bl]; rfl)
  rw [bl, show intsR (Array.toList #[37]) x y = okR (intA (x.tmod y)) by simp [intsR, hy]] at this; subst h; exact this
theorem binI_quo0 (x : Int) (w : World) : Calls Try.prog 15 #[.string ⟨#[47]⟩, .agg #[.int .i64 1, .int .i64 x, .int .u64 0], .agg #[.int .i64 1, .int .i64 0, .int .u64 0]] w (Ret w (.tuple #[.agg #[.int .i64 0, .int .i64 0, .int .u64 0], .int .i64 1])) := by
  have := binI_op ⟨#[47]⟩ x 0 w (by rw [bl]; rfl)
  rw [bl] at this; exact this
theorem binI_rem0 (x : Int) (w : World) : Calls Try.prog 15 #[.string ⟨#[37]⟩, .agg #[.int .i64 1, .int .i64 x, .int .u64 0], .agg #[.int .i64 1, .int .i64 0, .int .u64 0]] w (Ret w (.tuple #[.agg #[.int .i64 0, .int .i64 0, .int .u64 0], .int .i64 1])) := by
  have := binI_op ⟨#[37]⟩ x 0 w (by rw [bl]; rfl)
  rw [bl] at this; exact this

theorem wrap_some (n : Int) : ∃ k : Int, wrap64 n = n + k * 18446744073709551616 := by
  refine ⟨-((n + 9223372036854775808) / 18446744073709551616), ?_⟩
  unfold wrap64; omega
theorem wrap_back (a k : Int) (h1 : -9223372036854775808 ≤ a) (h2 : a ≤ 9223372036854775807) : wrap64 (a + k * 18446744073709551616) = a := by
  unfold wrap64; omega
theorem ints_sum (a b : Int) (h1 : -9223372036854775808 ≤ a) (h2 : a ≤ 9223372036854775807) : wrap64 (wrap64 (a + b) - b) = a := by
  obtain ⟨k, e⟩ := wrap_some (a + b)
  rw [e, show a + b + k * 18446744073709551616 - b = a + k * 18446744073709551616 by omega]
  exact wrap_back a k h1 h2
theorem ints_quot (a b : Int) (h1 : -9223372036854775808 ≤ a) (h2 : a ≤ 9223372036854775807) : wrap64 (wrap64 (wrap64 (a.tdiv b) * b) + a.tmod b) = a := by
  obtain ⟨k, e⟩ := wrap_some (a.tdiv b)
  obtain ⟨j, e2⟩ := wrap_some (wrap64 (a.tdiv b) * b)
  have e3 := Int.mul_tdiv_add_tmod a b
  rw [e2, e, show (a.tdiv b + k * 18446744073709551616) * b + j * 18446744073709551616 + a.tmod b = a + (k * b + j) * 18446744073709551616 by
    rw [Int.add_mul, Int.add_mul]; rw [show k * 18446744073709551616 * b = k * b * 18446744073709551616 by rw [Int.mul_assoc, Int.mul_comm 18446744073709551616 b, ← Int.mul_assoc]]; rw [Int.mul_comm (a.tdiv b) b]; omega]
  exact wrap_back a _ h1 h2
theorem rem_sign (a b : Int) : (a.tmod b == 0) = true ∨ ((a.tmod b == 0) = false ∧ (decide (a.tmod b < 0) = decide (a < 0))) := by
  by_cases h : a.tmod b = 0
  · left; simpa using h
  · right
    refine ⟨by simpa using h, ?_⟩
    by_cases ha : 0 ≤ a
    · have := Int.tmod_nonneg b ha
      rw [decide_eq_false (by omega), decide_eq_false (by omega)]
    · have := Int.neg_tmod (a := -a) (b := b)
      have h3 := Int.tmod_nonneg b (show 0 ≤ -a by omega)
      simp only [Int.neg_neg] at this
      rw [decide_eq_true (by omega), decide_eq_true (by omega)]

theorem intsLaw_zero (a : Int) (w : World) (h1 : -9223372036854775808 ≤ a) (h2 : a ≤ 9223372036854775807) : Calls Try.prog 5 #[.int .i64 a, .int .i64 0] w (Ret w (.bool true)) := by
  have HS := Lib.hid (show wrap64 (a + 0) = a by unfold wrap64; omega)
  have HD := Lib.hid (show wrap64 (a - 0) = a by unfold wrap64; omega)
  go_enter Try.func5, Try.ntmps5
  go_wp2_with fail
  refine (alive_any w).mono ?_
  rintro e w1 ⟨rfl, hbx⟩
  have hb := hbx
  clear hbx
  go_wp2_with fail
  refine (valInt_any a w1).mono ?_
  rintro e w2 ⟨rfl, hbx⟩
  replace hb := below_next hb hbx
  clear hbx
  go_wp2_with fail
  refine (valInt_any 0 w2).mono ?_
  rintro e w3 ⟨rfl, hbx⟩
  replace hb := below_next hb hbx
  clear hbx
  go_wp2_with fail
  refine (binI_add a 0 a ((w3.alloc (.cells #[.int .i64 1, .int .i64 a, .int .u64 0] 24)).alloc (.cells #[.int .i64 1, .int .i64 0, .int .u64 0] 24)) HS.out).mono ?_
  rintro e w4 ⟨rfl, hbx⟩
  have px := (lc3_new w3 (.int .i64 1) (.int .i64 a) (.int .u64 0) 24).later ((Below.refl (w3.alloc (.cells #[.int .i64 1, .int .i64 a, .int .u64 0] 24)).heap.size (w3.alloc (.cells #[.int .i64 1, .int .i64 a, .int .u64 0] 24))).alloc (Nat.le_refl _) (.cells #[.int .i64 1, .int .i64 0, .int .u64 0] 24))
  replace px := px.later hbx
  have py := (lc3_new2 w3 (.cells #[.int .i64 1, .int .i64 a, .int .u64 0] 24) (.int .i64 1) (.int .i64 0) (.int .u64 0) 24)
  replace py := py.later hbx
  replace hbx := below_next (below_alloc (below_alloc (Below.refl w3.heap.size w3) (.cells #[.int .i64 1, .int .i64 a, .int .u64 0] 24)) (.cells #[.int .i64 1, .int .i64 0, .int .u64 0] 24)) hbx
  replace hb := below_next hb hbx
  clear hbx
  obtain ⟨c0px, c1px, c2px, szpx⟩ := px.all
  obtain ⟨c0py, c1py, c2py, szpy⟩ := py.all
  go_wp2_with fail
  refine (binI_sub a 0 a (w4.alloc (.cells #[.int .i64 1, .int .i64 a, .int .u64 0] 24)) HD.out).mono ?_
  rintro e w5 ⟨rfl, hbx⟩
  have ps := (lc3_new w4 (.int .i64 1) (.int .i64 a) (.int .u64 0) 24)
  replace ps := ps.later hbx
  replace hbx := below_next (below_alloc (Below.refl w4.heap.size w4) (.cells #[.int .i64 1, .int .i64 a, .int .u64 0] 24)) hbx
  replace px := px.later hbx
  replace py := py.later hbx
  replace hb := below_next hb hbx
  clear hbx
  obtain ⟨c0px, c1px, c2px, szpx⟩ := px.all
  obtain ⟨c0py, c1py, c2py, szpy⟩ := py.all
  obtain ⟨c0ps, c1ps, c2ps, szps⟩ := ps.all
  go_wp2_with fail
  refine (binI_quo0 a (w5.alloc (.cells #[.int .i64 1, .int .i64 a, .int .u64 0] 24))).mono ?_
  rintro e w6 ⟨rfl, hbx⟩
  have pd := (lc3_new w5 (.int .i64 1) (.int .i64 a) (.int .u64 0) 24)
  replace pd := pd.later hbx
  replace hbx := below_next (below_alloc (Below.refl w5.heap.size w5) (.cells #[.int .i64 1, .int .i64 a, .int .u64 0] 24)) hbx
  replace px := px.later hbx
  replace py := py.later hbx
  replace ps := ps.later hbx
  replace hb := below_next hb hbx
  clear hbx
  obtain ⟨c0px, c1px, c2px, szpx⟩ := px.all
  obtain ⟨c0py, c1py, c2py, szpy⟩ := py.all
  obtain ⟨c0ps, c1ps, c2ps, szps⟩ := ps.all
  obtain ⟨c0pd, c1pd, c2pd, szpd⟩ := pd.all
  go_wp2_with fail
  refine (binI_rem0 a (w6.alloc (.cells #[.int .i64 0, .int .i64 0, .int .u64 0] 24))).mono ?_
  rintro e w7 ⟨rfl, hbx⟩
  have pq := (lc3_new w6 (.int .i64 0) (.int .i64 0) (.int .u64 0) 24)
  replace pq := pq.later hbx
  replace hbx := below_next (below_alloc (Below.refl w6.heap.size w6) (.cells #[.int .i64 0, .int .i64 0, .int .u64 0] 24)) hbx
  replace px := px.later hbx
  replace py := py.later hbx
  replace ps := ps.later hbx
  replace pd := pd.later hbx
  replace hb := below_next hb hbx
  clear hbx
  obtain ⟨c0px, c1px, c2px, szpx⟩ := px.all
  obtain ⟨c0py, c1py, c2py, szpy⟩ := py.all
  obtain ⟨c0ps, c1ps, c2ps, szps⟩ := ps.all
  obtain ⟨c0pd, c1pd, c2pd, szpd⟩ := pd.all
  obtain ⟨c0pq, c1pq, c2pq, szpq⟩ := pq.all
  go_wp2
  go_ret
  exact ⟨rfl, by repeat (first | exact hb | refine below_alloc ?_ _)⟩

theorem intsLaw_rem0 (a b S Q R M : Int) (w : World) (hb0 : (b == 0) = false) (HB : Hid (b ≠ 0)) (HS : Hid (wrap64 (a + b) = S)) (HD : Hid (wrap64 (S - b) = a)) (HQ : Hid (wrap64 (a.tdiv b) = Q)) (HR : Hid (a.tmod b = R)) (HM : Hid (wrap64 (Q * b) = M)) (HT : Hid (wrap64 (M + R) = a)) (hr : (R == 0) = true) : Calls Try.prog 5 #[.int .i64 a, .int .i64 b] w (Ret w (.bool true)) := by
  go_enter Try.func5, Try.ntmps5
  go_wp2_with fail
  refine (alive_any w).mono ?_
  rintro e w1 ⟨rfl, hbx⟩
  have hb := hbx
  clear hbx
  go_wp2_with fail
  refine (valInt_any a w1).mono ?_
  rintro e w2 ⟨rfl, hbx⟩
  replace hb := below_next hb hbx
  clear hbx
  go_wp2_with fail
  refine (valInt_any b w2).mono ?_
  rintro e w3 ⟨rfl, hbx⟩
  replace hb := below_next hb hbx
  clear hbx
  go_wp2_with fail
  refine (binI_add a b S ((w3.alloc (.cells #[.int .i64 1, .int .i64 a, .int .u64 0] 24)).alloc (.cells #[.int .i64 1, .int .i64 b, .int .u64 0] 24)) HS.out).mono ?_
  rintro e w4 ⟨rfl, hbx⟩
  have px := (lc3_new w3 (.int .i64 1) (.int .i64 a) (.int .u64 0) 24).later ((Below.refl (w3.alloc (.cells #[.int .i64 1, .int .i64 a, .int .u64 0] 24)).heap.size (w3.alloc (.cells #[.int .i64 1, .int .i64 a, .int .u64 0] 24))).alloc (Nat.le_refl _) (.cells #[.int .i64 1, .int .i64 b, .int .u64 0] 24))
  replace px := px.later hbx
  have py := (lc3_new2 w3 (.cells #[.int .i64 1, .int .i64 a, .int .u64 0] 24) (.int .i64 1) (.int .i64 b) (.int .u64 0) 24)
  replace py := py.later hbx
  replace hbx := below_next (below_alloc (below_alloc (Below.refl w3.heap.size w3) (.cells #[.int .i64 1, .int .i64 a, .int .u64 0] 24)) (.cells #[.int .i64 1, .int .i64 b, .int .u64 0] 24)) hbx
  replace hb := below_next hb hbx
  clear hbx
  obtain ⟨c0px, c1px, c2px, szpx⟩ := px.all
  obtain ⟨c0py, c1py, c2py, szpy⟩ := py.all
  go_wp2_with fail
  refine (binI_sub S b a (w4.alloc (.cells #[.int .i64 1, .int .i64 S, .int .u64 0] 24)) HD.out).mono ?_
  rintro e w5 ⟨rfl, hbx⟩
  have ps := (lc3_new w4 (.int .i64 1) (.int .i64 S) (.int .u64 0) 24)
  replace ps := ps.later hbx
  replace hbx := below_next (below_alloc (Below.refl w4.heap.size w4) (.cells #[.int .i64 1, .int .i64 S, .int .u64 0] 24)) hbx
  replace px := px.later hbx
  replace py := py.later hbx
  replace hb := below_next hb hbx
  clear hbx
  obtain ⟨c0px, c1px, c2px, szpx⟩ := px.all
  obtain ⟨c0py, c1py, c2py, szpy⟩ := py.all
  obtain ⟨c0ps, c1ps, c2ps, szps⟩ := ps.all
  go_wp2_with fail
  refine (binI_quo a b Q (w5.alloc (.cells #[.int .i64 1, .int .i64 a, .int .u64 0] 24)) HB.out HQ.out).mono ?_
  rintro e w6 ⟨rfl, hbx⟩
  have pd := (lc3_new w5 (.int .i64 1) (.int .i64 a) (.int .u64 0) 24)
  replace pd := pd.later hbx
  replace hbx := below_next (below_alloc (Below.refl w5.heap.size w5) (.cells #[.int .i64 1, .int .i64 a, .int .u64 0] 24)) hbx
  replace px := px.later hbx
  replace py := py.later hbx
  replace ps := ps.later hbx
  replace hb := below_next hb hbx
  clear hbx
  obtain ⟨c0px, c1px, c2px, szpx⟩ := px.all
  obtain ⟨c0py, c1py, c2py, szpy⟩ := py.all
  obtain ⟨c0ps, c1ps, c2ps, szps⟩ := ps.all
  obtain ⟨c0pd, c1pd, c2pd, szpd⟩ := pd.all
  go_wp2_with fail
  refine (binI_rem a b R (w6.alloc (.cells #[.int .i64 1, .int .i64 Q, .int .u64 0] 24)) HB.out HR.out).mono ?_
  rintro e w7 ⟨rfl, hbx⟩
  have pq := (lc3_new w6 (.int .i64 1) (.int .i64 Q) (.int .u64 0) 24)
  replace pq := pq.later hbx
  replace hbx := below_next (below_alloc (Below.refl w6.heap.size w6) (.cells #[.int .i64 1, .int .i64 Q, .int .u64 0] 24)) hbx
  replace px := px.later hbx
  replace py := py.later hbx
  replace ps := ps.later hbx
  replace pd := pd.later hbx
  replace hb := below_next hb hbx
  clear hbx
  obtain ⟨c0px, c1px, c2px, szpx⟩ := px.all
  obtain ⟨c0py, c1py, c2py, szpy⟩ := py.all
  obtain ⟨c0ps, c1ps, c2ps, szps⟩ := ps.all
  obtain ⟨c0pd, c1pd, c2pd, szpd⟩ := pd.all
  obtain ⟨c0pq, c1pq, c2pq, szpq⟩ := pq.all
  go_wp2_with fail
  refine (binI_mul Q b M (w7.alloc (.cells #[.int .i64 1, .int .i64 R, .int .u64 0] 24)) HM.out).mono ?_
  rintro e w8 ⟨rfl, hbx⟩
  have pr := (lc3_new w7 (.int .i64 1) (.int .i64 R) (.int .u64 0) 24)
  replace pr := pr.later hbx
  replace hbx := below_next (below_alloc (Below.refl w7.heap.size w7) (.cells #[.int .i64 1, .int .i64 R, .int .u64 0] 24)) hbx
  replace px := px.later hbx
  replace py := py.later hbx
  replace ps := ps.later hbx
  replace pd := pd.later hbx
  replace pq := pq.later hbx
  replace hb := below_next hb hbx
  clear hbx
  obtain ⟨c0px, c1px, c2px, szpx⟩ := px.all
  obtain ⟨c0py, c1py, c2py, szpy⟩ := py.all
  obtain ⟨c0ps, c1ps, c2ps, szps⟩ := ps.all
  obtain ⟨c0pd, c1pd, c2pd, szpd⟩ := pd.all
  obtain ⟨c0pq, c1pq, c2pq, szpq⟩ := pq.all
  obtain ⟨c0pr, c1pr, c2pr, szpr⟩ := pr.all
  go_wp2_with fail
  refine (binI_add M R a (w8.alloc (.cells #[.int .i64 1, .int .i64 M, .int .u64 0] 24)) HT.out).mono ?_
  rintro e w9 ⟨rfl, hbx⟩
  have pm := (lc3_new w8 (.int .i64 1) (.int .i64 M) (.int .u64 0) 24)
  replace pm := pm.later hbx
  replace hbx := below_next (below_alloc (Below.refl w8.heap.size w8) (.cells #[.int .i64 1, .int .i64 M, .int .u64 0] 24)) hbx
  replace px := px.later hbx
  replace py := py.later hbx
  replace ps := ps.later hbx
  replace pd := pd.later hbx
  replace pq := pq.later hbx
  replace pr := pr.later hbx
  replace hb := below_next hb hbx
  clear hbx
  obtain ⟨c0px, c1px, c2px, szpx⟩ := px.all
  obtain ⟨c0py, c1py, c2py, szpy⟩ := py.all
  obtain ⟨c0ps, c1ps, c2ps, szps⟩ := ps.all
  obtain ⟨c0pd, c1pd, c2pd, szpd⟩ := pd.all
  obtain ⟨c0pq, c1pq, c2pq, szpq⟩ := pq.all
  obtain ⟨c0pr, c1pr, c2pr, szpr⟩ := pr.all
  obtain ⟨c0pm, c1pm, c2pm, szpm⟩ := pm.all
  go_wp2
  go_ret
  exact ⟨rfl, by repeat (first | exact hb | refine below_alloc ?_ _)⟩

theorem intsLaw_rem (a b S Q R M : Int) (w : World) (hb0 : (b == 0) = false) (HB : Hid (b ≠ 0)) (HS : Hid (wrap64 (a + b) = S)) (HD : Hid (wrap64 (S - b) = a)) (HQ : Hid (wrap64 (a.tdiv b) = Q)) (HR : Hid (a.tmod b = R)) (HM : Hid (wrap64 (Q * b) = M)) (HT : Hid (wrap64 (M + R) = a)) (hr : (R == 0) = false) (hs : (decide (R < 0) == decide (a < 0)) = true) : Calls Try.prog 5 #[.int .i64 a, .int .i64 b] w (Ret w (.bool true)) := by
  go_enter Try.func5, Try.ntmps5
  go_wp2_with fail
  refine (alive_any w).mono ?_
  rintro e w1 ⟨rfl, hbx⟩
  have hb := hbx
  clear hbx
  go_wp2_with fail
  refine (valInt_any a w1).mono ?_
  rintro e w2 ⟨rfl, hbx⟩
  replace hb := below_next hb hbx
  clear hbx
  go_wp2_with fail
  refine (valInt_any b w2).mono ?_
  rintro e w3 ⟨rfl, hbx⟩
  replace hb := below_next hb hbx
  clear hbx
  go_wp2_with fail
  refine (binI_add a b S ((w3.alloc (.cells #[.int .i64 1, .int .i64 a, .int .u64 0] 24)).alloc (.cells #[.int .i64 1, .int .i64 b, .int .u64 0] 24)) HS.out).mono ?_
  rintro e w4 ⟨rfl, hbx⟩
  have px := (lc3_new w3 (.int .i64 1) (.int .i64 a) (.int .u64 0) 24).later ((Below.refl (w3.alloc (.cells #[.int .i64 1, .int .i64 a, .int .u64 0] 24)).heap.size (w3.alloc (.cells #[.int .i64 1, .int .i64 a, .int .u64 0] 24))).alloc (Nat.le_refl _) (.cells #[.int .i64 1, .int .i64 b, .int .u64 0] 24))
  replace px := px.later hbx
  have py := (lc3_new2 w3 (.cells #[.int .i64 1, .int .i64 a, .int .u64 0] 24) (.int .i64 1) (.int .i64 b) (.int .u64 0) 24)
  replace py := py.later hbx
  replace hbx := below_next (below_alloc (below_alloc (Below.refl w3.heap.size w3) (.cells #[.int .i64 1, .int .i64 a, .int .u64 0] 24)) (.cells #[.int .i64 1, .int .i64 b, .int .u64 0] 24)) hbx
  replace hb := below_next hb hbx
  clear hbx
  obtain ⟨c0px, c1px, c2px, szpx⟩ := px.all
  obtain ⟨c0py, c1py, c2py, szpy⟩ := py.all
  go_wp2_with fail
  refine (binI_sub S b a (w4.alloc (.cells #[.int .i64 1, .int .i64 S, .int .u64 0] 24)) HD.out).mono ?_
  rintro e w5 ⟨rfl, hbx⟩
  have ps := (lc3_new w4 (.int .i64 1) (.int .i64 S) (.int .u64 0) 24)
  replace ps := ps.later hbx
  replace hbx := below_next (below_alloc (Below.refl w4.heap.size w4) (.cells #[.int .i64 1, .int .i64 S, .int .u64 0] 24)) hbx
  replace px := px.later hbx
  replace py := py.later hbx
  replace hb := below_next hb hbx
  clear hbx
  obtain ⟨c0px, c1px, c2px, szpx⟩ := px.all
  obtain ⟨c0py, c1py, c2py, szpy⟩ := py.all
  obtain ⟨c0ps, c1ps, c2ps, szps⟩ := ps.all
  go_wp2_with fail
  refine (binI_quo a b Q (w5.alloc (.cells #[.int .i64 1, .int .i64 a, .int .u64 0] 24)) HB.out HQ.out).mono ?_
  rintro e w6 ⟨rfl, hbx⟩
  have pd := (lc3_new w5 (.int .i64 1) (.int .i64 a) (.int .u64 0) 24)
  replace pd := pd.later hbx
  replace hbx := below_next (below_alloc (Below.refl w5.heap.size w5) (.cells #[.int .i64 1, .int .i64 a, .int .u64 0] 24)) hbx
  replace px := px.later hbx
  replace py := py.later hbx
  replace ps := ps.later hbx
  replace hb := below_next hb hbx
  clear hbx
  obtain ⟨c0px, c1px, c2px, szpx⟩ := px.all
  obtain ⟨c0py, c1py, c2py, szpy⟩ := py.all
  obtain ⟨c0ps, c1ps, c2ps, szps⟩ := ps.all
  obtain ⟨c0pd, c1pd, c2pd, szpd⟩ := pd.all
  go_wp2_with fail
  refine (binI_rem a b R (w6.alloc (.cells #[.int .i64 1, .int .i64 Q, .int .u64 0] 24)) HB.out HR.out).mono ?_
  rintro e w7 ⟨rfl, hbx⟩
  have pq := (lc3_new w6 (.int .i64 1) (.int .i64 Q) (.int .u64 0) 24)
  replace pq := pq.later hbx
  replace hbx := below_next (below_alloc (Below.refl w6.heap.size w6) (.cells #[.int .i64 1, .int .i64 Q, .int .u64 0] 24)) hbx
  replace px := px.later hbx
  replace py := py.later hbx
  replace ps := ps.later hbx
  replace pd := pd.later hbx
  replace hb := below_next hb hbx
  clear hbx
  obtain ⟨c0px, c1px, c2px, szpx⟩ := px.all
  obtain ⟨c0py, c1py, c2py, szpy⟩ := py.all
  obtain ⟨c0ps, c1ps, c2ps, szps⟩ := ps.all
  obtain ⟨c0pd, c1pd, c2pd, szpd⟩ := pd.all
  obtain ⟨c0pq, c1pq, c2pq, szpq⟩ := pq.all
  go_wp2_with fail
  refine (binI_mul Q b M (w7.alloc (.cells #[.int .i64 1, .int .i64 R, .int .u64 0] 24)) HM.out).mono ?_
  rintro e w8 ⟨rfl, hbx⟩
  have pr := (lc3_new w7 (.int .i64 1) (.int .i64 R) (.int .u64 0) 24)
  replace pr := pr.later hbx
  replace hbx := below_next (below_alloc (Below.refl w7.heap.size w7) (.cells #[.int .i64 1, .int .i64 R, .int .u64 0] 24)) hbx
  replace px := px.later hbx
  replace py := py.later hbx
  replace ps := ps.later hbx
  replace pd := pd.later hbx
  replace pq := pq.later hbx
  replace hb := below_next hb hbx
  clear hbx
  obtain ⟨c0px, c1px, c2px, szpx⟩ := px.all
  obtain ⟨c0py, c1py, c2py, szpy⟩ := py.all
  obtain ⟨c0ps, c1ps, c2ps, szps⟩ := ps.all
  obtain ⟨c0pd, c1pd, c2pd, szpd⟩ := pd.all
  obtain ⟨c0pq, c1pq, c2pq, szpq⟩ := pq.all
  obtain ⟨c0pr, c1pr, c2pr, szpr⟩ := pr.all
  go_wp2_with fail
  refine (binI_add M R a (w8.alloc (.cells #[.int .i64 1, .int .i64 M, .int .u64 0] 24)) HT.out).mono ?_
  rintro e w9 ⟨rfl, hbx⟩
  have pm := (lc3_new w8 (.int .i64 1) (.int .i64 M) (.int .u64 0) 24)
  replace pm := pm.later hbx
  replace hbx := below_next (below_alloc (Below.refl w8.heap.size w8) (.cells #[.int .i64 1, .int .i64 M, .int .u64 0] 24)) hbx
  replace px := px.later hbx
  replace py := py.later hbx
  replace ps := ps.later hbx
  replace pd := pd.later hbx
  replace pq := pq.later hbx
  replace pr := pr.later hbx
  replace hb := below_next hb hbx
  clear hbx
  obtain ⟨c0px, c1px, c2px, szpx⟩ := px.all
  obtain ⟨c0py, c1py, c2py, szpy⟩ := py.all
  obtain ⟨c0ps, c1ps, c2ps, szps⟩ := ps.all
  obtain ⟨c0pd, c1pd, c2pd, szpd⟩ := pd.all
  obtain ⟨c0pq, c1pq, c2pq, szpq⟩ := pq.all
  obtain ⟨c0pr, c1pr, c2pr, szpr⟩ := pr.all
  obtain ⟨c0pm, c1pm, c2pm, szpm⟩ := pm.all
  go_wp2
  go_ret
  exact ⟨rfl, by repeat (first | exact hb | refine below_alloc ?_ _)⟩

theorem ints_law (a b : Int) (w : World) (h1 : -9223372036854775808 ≤ a) (h2 : a ≤ 9223372036854775807) : Calls Try.prog 5 #[.int .i64 a, .int .i64 b] w (Ret w (.bool true)) := by
  by_cases hb : b = 0
  · subst hb; exact intsLaw_zero a w h1 h2
  · rcases rem_sign a b with h | ⟨h, h'⟩
    · exact intsLaw_rem0 a b _ _ _ _ w (by simpa using hb) (Lib.hid hb) (Lib.hid rfl) (Lib.hid (ints_sum a b h1 h2)) (Lib.hid rfl) (Lib.hid rfl) (Lib.hid rfl) (Lib.hid (ints_quot a b h1 h2)) h
    · exact intsLaw_rem a b _ _ _ _ w (by simpa using hb) (Lib.hid hb) (Lib.hid rfl) (Lib.hid (ints_sum a b h1 h2)) (Lib.hid rfl) (Lib.hid rfl) (Lib.hid rfl) (Lib.hid (ints_quot a b h1 h2)) h (by rw [h']; simp)
end Go.Proofs.Ytdeabmijoaepcaa
