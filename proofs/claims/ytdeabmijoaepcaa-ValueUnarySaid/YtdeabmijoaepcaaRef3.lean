/-
  The walk of the document's Unary: a float as an int; all ways together.
-/
import Derived.Test.YtdeabmijoaepcaaRef2
import Derived.Test.YtdeabmijoaepcaaTrunc2
namespace Go.Proofs.Ytdeabmijoaepcaa
open Go.RowKit Go.Stk

theorem rn_int_bad (op : ByteArray) (a : Val) (w : World) (N : Int) (h : a.good = true) (ho : op.toList = [105, 110, 116]) (h1 : (a.t == 2) = true) (HT : Hid (∀ W : World, Calls Try.prog 37 #[.int .u64 a.b] W (fun e w' => e = .returned (.tuple #[.int .i64 N, .bool false]) ∧ W = w'))) : Calls Try.prog 14 #[.string op, .agg #[.int .i64 a.t, .int .i64 a.n, .int .u64 a.b]] w (Ret w (badR 3)) := by
  have HA := Lib.hid h
  clear h
  go_enter Try.func14, Try.ntmps14
  go_wp2_with fail
  have hj := refForm_any a.t a.n a.b ((w.alloc (.cells #[.int .i64 a.t, .int .i64 a.n, .int .u64 a.b] 24)).alloc (.cells #[.int .i64 0, .int .i64 0, .int .u64 0] 24))
  rw [show (Val.mk a.t a.n a.b).good = true from HA.out] at hj
  refine hj.mono ?_
  rintro e w1 ⟨rfl, hb⟩
  clear hj
  have hx := (box1_new w a 24).later hb
  replace hb := below_next (below_alloc (below_alloc (Below.refl w.heap.size w) _) _) hb
  obtain ⟨a0, a1, a2, r0, r1, r2, f0, f1, f2, sz, s0⟩ := hx
  go_wp2_with fail
  refine (HT.out _).mono ?_
  rintro e w2 ⟨rfl, rfl⟩
  go_wp2
  exact bodyPost_ret (v := .tuple #[.agg #[.int .i64 0, .int .i64 0, .int .u64 0], .int .i64 3]) (by simp [results, Try.results14, go_sem, r0, r1, r2]) rfl ⟨rfl, by repeat (first | exact hb | exact Below.refl _ _ | refine below_setB ?_ (by omega) _ _ | refine below_alloc ?_ _)⟩
theorem rn_int_ok (op : ByteArray) (a : Val) (w : World) (N : Int) (h : a.good = true) (ho : op.toList = [105, 110, 116]) (h1 : (a.t == 2) = true) (HT : Hid (∀ W : World, Calls Try.prog 37 #[.int .u64 a.b] W (fun e w' => e = .returned (.tuple #[.int .i64 N, .bool true]) ∧ W = w'))) : Calls Try.prog 14 #[.string op, .agg #[.int .i64 a.t, .int .i64 a.n, .int .u64 a.b]] w (Ret w (okR (intA N))) := by
  have HA := Lib.hid h
  clear h
  go_enter Try.func14, Try.ntmps14
  go_wp2_with fail
  have hj := refForm_any a.t a.n a.b ((w.alloc (.cells #[.int .i64 a.t, .int .i64 a.n, .int .u64 a.b] 24)).alloc (.cells #[.int .i64 0, .int .i64 0, .int .u64 0] 24))
  rw [show (Val.mk a.t a.n a.b).good = true from HA.out] at hj
  refine hj.mono ?_
  rintro e w1 ⟨rfl, hb⟩
  clear hj
  have hx := (box1_new w a 24).later hb
  replace hb := below_next (below_alloc (below_alloc (Below.refl w.heap.size w) _) _) hb
  obtain ⟨a0, a1, a2, r0, r1, r2, f0, f1, f2, sz, s0⟩ := hx
  go_wp2_with fail
  refine (HT.out _).mono ?_
  rintro e w2 ⟨rfl, rfl⟩
  go_wp2_with fail
  have hx : Box1 w.heap.size a w1 := ⟨a0, a1, a2, r0, r1, r2, f0, f1, f2, sz, s0⟩
  refine (refNumber_any _ _).mono ?_
  rintro e w2 ⟨rfl, hbx⟩
  clear a0 a1 a2 r0 r1 r2 f0 f1 f2 sz s0
  obtain ⟨a0, a1, a2, r0, r1, r2, f0, f1, f2, sz, s0⟩ := hx.later hbx
  replace hb := below_next hb hbx
  clear hbx hx
  go_wp2
  exact bodyPost_ret (v := .tuple #[.agg #[.int .i64 1, .int .i64 N, .int .u64 0], .int .i64 0]) (by simp [results, Try.results14, go_sem, r0, r1, r2]) rfl ⟨rfl, by repeat (first | exact hb | exact Below.refl _ _ | refine below_setB ?_ (by omega) _ _ | refine below_alloc ?_ _)⟩

theorem refUnary_any (op : ByteArray) (a : Val) (w : World) (hb0 : 0 ≤ a.b) (hb1 : a.b < 18446744073709551616) : Calls Try.prog 14 #[.string op, .agg #[.int .i64 a.t, .int .i64 a.n, .int .u64 a.b]] w (Ret w (unR op.toList a)) := by
  obtain ⟨t, n, x⟩ := a
  obtain ⟨B, rfl⟩ : ∃ B : Nat, x = B := ⟨x.toNat, by have h0 : 0 ≤ x := hb0; omega⟩
  have hB : B < 18446744073709551616 := by have h1 : (B : Int) < 18446744073709551616 := hb1; omega
  clear hb0 hb1
  unfold unR
  by_cases h : (Val.mk t n B).good = false
  · rw [if_pos h]; exact rn_bad op ⟨t, n, B⟩ w h
  have hg : (Val.mk t n B).good = true := by simpa using h
  rw [if_neg h]
  by_cases h1 : op.toList = [45]
  · rw [if_pos h1]
    by_cases t1 : t = 1
    · rw [if_pos t1]; exact rn_minus_int op ⟨t, n, B⟩ w hg h1 (by simpa using t1)
    rw [if_neg t1]
    by_cases t2 : t = 2
    · rw [if_pos t2]
      have hw := rn_minus_flt op ⟨t, n, B⟩ w hg h1 (by simpa using t1) (by simpa using t2) (flipB B) (bits_xor B hB)
      have e : cameO (FloatKind.f64.format.mul 13830554455654793216 (Val.mk t n B).b.toNat) = cameB (flipB B) := by
        cases hn : nanB B
        · rw [show FloatKind.f64.format.mul 13830554455654793216 (Val.mk t n B).b.toNat = some (flipB B) from neg_number hn]; rfl
        · rw [show FloatKind.f64.format.mul 13830554455654793216 (Val.mk t n B).b.toNat = none from neg_nan hn]
          have : nanB (flipB B) = true := by rw [nanB_iff, flipB_mod, ← nanB_iff]; exact hn
          rw [cameB, if_pos this]; rfl
      rw [e]; exact hw
    rw [if_neg t2]; exact rn_minus_none op ⟨t, n, B⟩ w hg h1 (by simpa using t1) (by simpa using t2)
  rw [if_neg h1]
  by_cases h2 : op.toList = [33]
  · rw [if_pos h2]
    by_cases t1 : t = 3
    · rw [if_pos t1]; exact rn_not_bool op ⟨t, n, B⟩ w hg h2 (by simpa using t1)
    rw [if_neg t1]; exact rn_not_none op ⟨t, n, B⟩ w hg h2 (by simpa using t1)
  rw [if_neg h2]
  by_cases h3 : op.toList = [105, 110, 116]
  · rw [if_pos h3]
    by_cases t1 : t = 2
    · rw [if_pos t1, show toIntR (Val.mk t n B).b.toNat = _ from trunc_spec B hB]
      cases hk : (truncN B).2
      · exact rn_int_bad op ⟨t, n, B⟩ w (truncN B).1 hg h3 (by simpa using t1) (Lib.hid fun W => by have := trunc_any B W hB; rw [hk] at this; exact this)
      · exact rn_int_ok op ⟨t, n, B⟩ w (truncN B).1 hg h3 (by simpa using t1) (Lib.hid fun W => by have := trunc_any B W hB; rw [hk] at this; exact this)
    rw [if_neg t1]; exact rn_int_none op ⟨t, n, B⟩ w hg h3 (by simpa using t1)
  rw [if_neg h3]
  by_cases h4 : op.toList = [102, 108, 111, 97, 116]
  · rw [if_pos h4]
    by_cases t1 : t = 1
    · rw [if_pos t1]; exact rn_float_int op ⟨t, n, B⟩ w hg h4 (by simpa using t1)
    rw [if_neg t1]; exact rn_float_none op ⟨t, n, B⟩ w hg h4 (by simpa using t1)
  rw [if_neg h4]
  exact rn_none op ⟨t, n, B⟩ w hg (by simpa using h1) (by simpa using h2) (by simpa using h3) (by simpa using h4)
end Go.Proofs.Ytdeabmijoaepcaa
