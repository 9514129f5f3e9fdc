/-
  The document's Binary: all ways together; ValueBinary.
-/
import Derived.Test.YtdeabmijoaepcaaRef8p
import Derived.Test.YtdeabmijoaepcaaRef5
import Derived.Test.YtdeabmijoaepcaaVal11
import Derived.Test.YtdeabmijoaepcaaThere
namespace Go.Proofs.Ytdeabmijoaepcaa
open Go.RowKit Go.Stk

theorem okb {x y : Bool} (h : x = y) : okR (boolA x) = okR (boolA y) := by rw [h]
theorem oki {x y : Int} (h : x = y) : okR (intA x) = okR (intA y) := by rw [h]
theorem okf {x y : Nat} (h : x = y) : okR (fltV x) = okR (fltV y) := by rw [h]
theorem ret_of {P : Program} {f : FuncId} {args : Array Value} {w : World} {u v : Value} (h : Calls P f args w (Ret w u)) (e : v = u) : Calls P f args w (Ret w v) := by rw [e]; exact h
section
variable (op : ByteArray) (a b : Val) (w : World) (g1 : a.good = true) (g2 : b.good = true) (g3 : (a.t != b.t) = false)
include g1 g2 g3

theorem binR_open : binR op.toList a b = (if a.t = 1 then (match cmpV op.toList (a.n == b.n) (a.n != b.n) (decide (a.n < b.n)) (decide (a.n ≤ b.n)) (decide (b.n < a.n)) (decide (b.n ≤ a.n)) with | some x => okR (boolA x) | none => intsR op.toList a.n b.n)
  else if a.t = 2 then (match cmpV op.toList (FloatKind.f64.format.order a.b.toNat b.b.toNat == some .eq) (FloatKind.f64.format.order a.b.toNat b.b.toNat != some .eq) (FloatKind.f64.format.order a.b.toNat b.b.toNat == some .lt) (FloatKind.f64.format.order a.b.toNat b.b.toNat == some .lt || FloatKind.f64.format.order a.b.toNat b.b.toNat == some .eq) (FloatKind.f64.format.order a.b.toNat b.b.toNat == some .gt) (FloatKind.f64.format.order a.b.toNat b.b.toNat == some .gt || FloatKind.f64.format.order a.b.toNat b.b.toNat == some .eq) with | some x => okR (boolA x) | none => floatsR op.toList a.b.toNat b.b.toNat)
  else boolsR op.toList (a.n == 1) (b.n == 1)) := by
  have h3 : a.t = b.t := by simpa using g3
  unfold binR
  rw [if_neg (by simp [g1]), if_neg (by simp [g2]), if_neg (by simpa using h3)]
  rfl

theorem ref_int (h0 : 0 ≤ a.b) (h1 : 0 ≤ b.b) (na : -9223372036854775808 ≤ a.n) (na2 : a.n ≤ 9223372036854775807) (nb : -9223372036854775808 ≤ b.n) (nb2 : b.n ≤ 9223372036854775807) (ht : a.t = 1) :
    Calls Try.prog 16 #[.string op, .agg #[.int .i64 a.t, .int .i64 a.n, .int .u64 a.b], .agg #[.int .i64 b.t, .int .i64 b.n, .int .u64 b.b]] w (Ret w (binR op.toList a b)) := by
  have HO := Lib.hid (fun W => ord_any a b W h0 h1)
  have hb := binR_open op a b g1 g2 g3
  rw [if_pos ht] at hb
  rw [hb]
  have n2 : a.t ≠ 2 := by omega
  have k3 : (a.t == 3) = false := by simp; omega
  have k2 : (a.t == 2) = false := by simp; omega
  by_cases e0 : op.toList = [61, 61]
  · exact ret_of (rb_eq op a b w _ HO g1 g2 g3 e0) (by rw [e0, oi_eq n2]; rfl)
  by_cases e1 : op.toList = [33, 61]
  · exact ret_of (rb_ne op a b w _ HO g1 g2 g3 e1) (by
      rw [e1]; show okR (boolA (a.n != b.n)) = _
      exact okb (by rw [bne, ← oi_eq n2]; rfl))
  by_cases e2 : op.toList = [60]
  · exact ret_of (rb_lt op a b w _ HO g1 g2 g3 e2 k3) (by rw [e2, oi_lt n2]; rfl)
  by_cases e3 : op.toList = [60, 61]
  · cases hc : (ordR a b == -1)
    · refine ret_of (rb_le2 op a b w _ HO g1 g2 g3 e3 hc k3) ?_
      rw [e3]; show okR (boolA (decide (a.n ≤ b.n))) = _
      rw [oi_lt n2] at hc
      refine okb ?_
      rw [oi_eq n2, Bool.eq_iff_iff]
      simp at hc ⊢; omega
    · refine ret_of (rb_le1 op a b w _ HO g1 g2 g3 e3 hc k3) ?_
      rw [e3]; show okR (boolA (decide (a.n ≤ b.n))) = _
      rw [oi_lt n2] at hc
      refine okb ?_
      simp at hc ⊢; omega
  by_cases e4 : op.toList = [62]
  · exact ret_of (rb_gt op a b w _ HO g1 g2 g3 e4 k3) (by rw [e4, oi_gt n2]; rfl)
  by_cases e5 : op.toList = [62, 61]
  · cases hc : (ordR a b == 1)
    · refine ret_of (rb_ge2 op a b w _ HO g1 g2 g3 e5 hc k3) ?_
      rw [e5]; show okR (boolA (decide (b.n ≤ a.n))) = _
      rw [oi_gt n2] at hc
      refine okb ?_
      rw [oi_eq n2, Bool.eq_iff_iff]
      simp at hc ⊢; omega
    · refine ret_of (rb_ge1 op a b w _ HO g1 g2 g3 e5 hc k3) ?_
      rw [e5]; show okR (boolA (decide (b.n ≤ a.n))) = _
      rw [oi_gt n2] at hc
      refine okb ?_
      simp at hc ⊢; omega
  have hcmp : ∀ x1 x2 x3 x4 x5 x6 : Bool, cmpV op.toList x1 x2 x3 x4 x5 x6 = none := by intros; simp [cmpV, e0, e1, e2, e3, e4, e5]
  rw [hcmp]
  show Calls _ _ _ _ (Ret w (intsR op.toList a.n b.n))
  by_cases e6 : op.toList = [43]
  · exact ret_of (rb_add op a b w _ HO g1 g2 g3 e6 k3 k2) (by rw [e6]; rfl)
  by_cases e7 : op.toList = [45]
  · exact ret_of (rb_sub op a b w _ HO g1 g2 g3 e7 k3 k2) (by rw [e7]; rfl)
  by_cases e8 : op.toList = [42]
  · exact ret_of (rb_mul op a b w _ HO g1 g2 g3 e8 k3 k2) (by rw [e8]; rfl)
  by_cases e9 : op.toList = [47]
  · have ei : intsR op.toList a.n b.n = if b.n = 0 then badR 1 else okR (intA (wrap64 (a.n.tdiv b.n))) := by rw [e9]; rfl
    rw [ei]
    by_cases hz : b.n = 0
    · rw [if_pos hz]
      obtain ⟨bt, bn, bb⟩ := b
      simp only at hz; subst hz
      exact rb_div0 op a bt bb w _ HO g1 g2 g3 e9 k3 k2
    rw [if_neg hz]
    by_cases sa : a.n < 0
    · by_cases sb : b.n < 0
      · have := rb_quo11 op a b w _ HO g1 g2 g3 e9 (decide_eq_true sa) (decide_eq_true sb) (-a.n) (-b.n) _ rfl (un sa na) _ rfl (by rw [u64_eq]; simp; omega) (un sb nb) (by omega) k3 k2
        exact ret_of this (oki (by rw [wrap_idem, Int.neg_tdiv, Int.tdiv_neg, Int.neg_neg]))
      · have := rb_quo10 op a b w _ HO g1 g2 g3 e9 (decide_eq_true sa) (decide_eq_false sb) (-a.n) b.n _ rfl (un sa na) (up (by omega) nb2) (by simp; omega) (by omega) k3 k2
        exact ret_of this (oki (by rw [wrap_neg, Int.neg_tdiv, Int.neg_neg]))
    · by_cases sb : b.n < 0
      · have := rb_quo01 op a b w _ HO g1 g2 g3 e9 (decide_eq_false sa) (decide_eq_true sb) a.n (-b.n) (up (by omega) na2) _ rfl (by rw [u64_eq]; simp; omega) (un sb nb) (by omega) k3 k2
        exact ret_of this (oki (by rw [wrap_neg, Int.tdiv_neg, Int.neg_neg]))
      · have := rb_quo00 op a b w _ HO g1 g2 g3 e9 (decide_eq_false sa) (decide_eq_false sb) a.n b.n (up (by omega) na2) (up (by omega) nb2) (by simp; omega) (by omega) k3 k2
        exact ret_of this (oki (by rw [wrap_idem]))
  by_cases e10 : op.toList = [37]
  · have ei : intsR op.toList a.n b.n = if b.n = 0 then badR 1 else okR (intA (a.n.tmod b.n)) := by rw [e10]; rfl
    rw [ei]
    by_cases hz : b.n = 0
    · rw [if_pos hz]
      obtain ⟨bt, bn, bb⟩ := b
      simp only at hz; subst hz
      exact rb_rem0 op a bt bb w _ HO g1 g2 g3 e10 k3 k2
    rw [if_neg hz]
    by_cases sa : a.n < 0
    · by_cases sb : b.n < 0
      · have := rb_rem11 op a b w _ HO g1 g2 g3 e10 (decide_eq_true sa) (decide_eq_true sb) (-a.n) (-b.n) _ rfl (un sa na) _ rfl (by rw [u64_eq]; simp; omega) (un sb nb) (by omega) k3 k2
        exact ret_of this (oki (by rw [wrap_neg', Int.neg_tmod, Int.tmod_neg, Int.neg_neg, rem_small na na2]))
      · have := rb_rem10 op a b w _ HO g1 g2 g3 e10 (decide_eq_true sa) (decide_eq_false sb) (-a.n) b.n _ rfl (un sa na) (up (by omega) nb2) (by simp; omega) (by omega) k3 k2
        exact ret_of this (oki (by rw [wrap_neg', Int.neg_tmod, Int.neg_neg, rem_small na na2]))
    · by_cases sb : b.n < 0
      · have := rb_rem01 op a b w _ HO g1 g2 g3 e10 (decide_eq_false sa) (decide_eq_true sb) a.n (-b.n) (up (by omega) na2) _ rfl (by rw [u64_eq]; simp; omega) (un sb nb) (by omega) k3 k2
        exact ret_of this (oki (by rw [Int.tmod_neg, rem_small na na2]))
      · have := rb_rem00 op a b w _ HO g1 g2 g3 e10 (decide_eq_false sa) (decide_eq_false sb) a.n b.n (up (by omega) na2) (up (by omega) nb2) (by simp; omega) (by omega) k3 k2
        exact ret_of this (oki (by rw [rem_small na na2]))
  exact ret_of (rb_int_none op a b w _ HO g1 g2 g3 (by simpa using e0) (by simpa using e1) (by simpa using e2) (by simpa using e3) (by simpa using e4) (by simpa using e5) (by simpa using e6) (by simpa using e7) (by simpa using e8) (by simpa using e9) (by simpa using e10) k3 k2) (by simp [intsR, e6, e7, e8, e9, e10])
theorem ref_flt (h0 : 0 ≤ a.b) (h1 : 0 ≤ b.b) (ht : a.t = 2) :
    Calls Try.prog 16 #[.string op, .agg #[.int .i64 a.t, .int .i64 a.n, .int .u64 a.b], .agg #[.int .i64 b.t, .int .i64 b.n, .int .u64 b.b]] w (Ret w (binR op.toList a b)) := by
  have HO := Lib.hid (fun W => ord_any a b W h0 h1)
  rw [ord_flt' ht] at HO
  have hb := binR_open op a b g1 g2 g3
  rw [if_neg (by omega), if_pos ht] at hb
  rw [hb]
  have k3 : (a.t == 3) = false := by simp; omega
  have k2 : (a.t == 2) = true := by simpa using ht
  obtain ⟨O, hO⟩ : ∃ O, FloatKind.f64.format.order a.b.toNat b.b.toNat = O := ⟨_, rfl⟩
  rw [hO] at HO ⊢
  by_cases e0 : op.toList = [61, 61]
  · exact ret_of (rb_eq op a b w _ HO g1 g2 g3 e0) (by rw [e0, oo_eq]; rfl)
  by_cases e1 : op.toList = [33, 61]
  · exact ret_of (rb_ne op a b w _ HO g1 g2 g3 e1) (by
      rw [e1]; show okR (boolA (O != some .eq)) = _
      exact okb (by rw [bne, ← oo_eq]; rfl))
  by_cases e2 : op.toList = [60]
  · exact ret_of (rb_lt op a b w _ HO g1 g2 g3 e2 k3) (by rw [e2, oo_lt]; rfl)
  by_cases e3 : op.toList = [60, 61]
  · cases hc : (ordO O == -1)
    · refine ret_of (rb_le2 op a b w _ HO g1 g2 g3 e3 hc k3) ?_
      rw [e3]; show okR (boolA (O == some .lt || O == some .eq)) = _
      rw [oo_lt] at hc
      exact okb (by rw [oo_eq, hc]; rfl)
    · refine ret_of (rb_le1 op a b w _ HO g1 g2 g3 e3 hc k3) ?_
      rw [e3]; show okR (boolA (O == some .lt || O == some .eq)) = _
      rw [oo_lt] at hc
      exact okb (by rw [hc]; rfl)
  by_cases e4 : op.toList = [62]
  · exact ret_of (rb_gt op a b w _ HO g1 g2 g3 e4 k3) (by rw [e4, oo_gt]; rfl)
  by_cases e5 : op.toList = [62, 61]
  · cases hc : (ordO O == 1)
    · refine ret_of (rb_ge2 op a b w _ HO g1 g2 g3 e5 hc k3) ?_
      rw [e5]; show okR (boolA (O == some .gt || O == some .eq)) = _
      rw [oo_gt] at hc
      exact okb (by rw [oo_eq, hc]; rfl)
    · refine ret_of (rb_ge1 op a b w _ HO g1 g2 g3 e5 hc k3) ?_
      rw [e5]; show okR (boolA (O == some .gt || O == some .eq)) = _
      rw [oo_gt] at hc
      exact okb (by rw [hc]; rfl)
  have hcmp : ∀ x1 x2 x3 x4 x5 x6 : Bool, cmpV op.toList x1 x2 x3 x4 x5 x6 = none := by intros; simp [cmpV, e0, e1, e2, e3, e4, e5]
  rw [hcmp]
  show Calls _ _ _ _ (Ret w (floatsR op.toList a.b.toNat b.b.toNat))
  by_cases e6 : op.toList = [43]
  · have ei : floatsR op.toList a.b.toNat b.b.toNat = okR (fltV (cameO (FloatKind.f64.format.add a.b.toNat b.b.toNat))) := by rw [e6]; rfl
    rw [ei]
    cases hr : FloatKind.f64.format.add a.b.toNat b.b.toNat with
    | none => exact rb_fadd_none op a b w _ HO g1 g2 g3 e6 k3 k2 hr
    | some r => exact rb_fadd_some op a b w _ HO g1 g2 g3 e6 k3 k2 r hr
  by_cases e7 : op.toList = [45]
  · have ei : floatsR op.toList a.b.toNat b.b.toNat = okR (fltV (cameO (FloatKind.f64.format.sub a.b.toNat b.b.toNat))) := by rw [e7]; rfl
    rw [ei]
    cases hr : FloatKind.f64.format.sub a.b.toNat b.b.toNat with
    | none => exact rb_fsub_none op a b w _ HO g1 g2 g3 e7 k3 k2 hr
    | some r => exact rb_fsub_some op a b w _ HO g1 g2 g3 e7 k3 k2 r hr
  by_cases e8 : op.toList = [42]
  · have ei : floatsR op.toList a.b.toNat b.b.toNat = okR (fltV (cameO (FloatKind.f64.format.mul a.b.toNat b.b.toNat))) := by rw [e8]; rfl
    rw [ei]
    cases hr : FloatKind.f64.format.mul a.b.toNat b.b.toNat with
    | none => exact rb_fmul_none op a b w _ HO g1 g2 g3 e8 k3 k2 hr
    | some r => exact rb_fmul_some op a b w _ HO g1 g2 g3 e8 k3 k2 r hr
  by_cases e9 : op.toList = [47]
  · have ei : floatsR op.toList a.b.toNat b.b.toNat = okR (fltV (cameO (FloatKind.f64.format.div a.b.toNat b.b.toNat))) := by rw [e9]; rfl
    rw [ei]
    cases hr : FloatKind.f64.format.div a.b.toNat b.b.toNat with
    | none => exact rb_fdiv_none op a b w _ HO g1 g2 g3 e9 k3 k2 hr
    | some r => exact rb_fdiv_some op a b w _ HO g1 g2 g3 e9 k3 k2 r hr
  exact ret_of (rb_flt_none op a b w _ HO g1 g2 g3 (by simpa using e0) (by simpa using e1) (by simpa using e2) (by simpa using e3) (by simpa using e4) (by simpa using e5) (by simpa using e6) (by simpa using e7) (by simpa using e8) (by simpa using e9) k3 k2) (by simp [floatsR, e6, e7, e8, e9])

theorem ref_bool (h0 : 0 ≤ a.b) (h1 : 0 ≤ b.b) (n1 : a.t ≠ 1) (n2 : a.t ≠ 2) :
    Calls Try.prog 16 #[.string op, .agg #[.int .i64 a.t, .int .i64 a.n, .int .u64 a.b], .agg #[.int .i64 b.t, .int .i64 b.n, .int .u64 b.b]] w (Ret w (binR op.toList a b)) := by
  have HO := Lib.hid (fun W => ord_any a b W h0 h1)
  have hb := binR_open op a b g1 g2 g3
  rw [if_neg n1, if_neg n2] at hb
  rw [hb]
  have h3 : a.t = b.t := by simpa using g3
  have ga : a.t = 3 ∧ (a.n = 0 ∨ a.n = 1) := by
    have := g1
    simp only [Val.good, if_neg n1, if_neg n2] at this
    split at this
    · simp at this; exact ⟨by assumption, this.2⟩
    · cases this
  have gb : b.n = 0 ∨ b.n = 1 := by
    have := g2
    simp only [Val.good, ← h3, if_neg n1, if_neg n2, if_pos ga.1] at this
    simp at this; exact this.2
  have k3 : (a.t == 3) = true := by simpa using ga.1
  by_cases e0 : op.toList = [61, 61]
  · refine ret_of (rb_eq op a b w _ HO g1 g2 g3 e0) ?_
    rw [e0, oi_eq n2]
    show okR (boolA ((a.n == 1) == (b.n == 1))) = _
    refine okb ?_
    rcases ga.2 with h | h <;> rcases gb with h' | h' <;> rw [h, h'] <;> rfl
  by_cases e1 : op.toList = [33, 61]
  · refine ret_of (rb_ne op a b w _ HO g1 g2 g3 e1) ?_
    rw [e1, bne, oi_eq n2]
    show okR (boolA ((a.n == 1) != (b.n == 1))) = _
    refine okb ?_
    rcases ga.2 with h | h <;> rcases gb with h' | h' <;> rw [h, h'] <;> rfl
  by_cases e2 : op.toList = [38, 38]
  · refine ret_of (rb_and op a b w _ HO g1 g2 g3 e2 k3) ?_
    rw [e2]
    show okR (boolA ((a.n == 1) && (b.n == 1))) = _
    refine okb ?_
    rcases ga.2 with h | h <;> rcases gb with h' | h' <;> rw [h, h'] <;> simp [wrap64]
  by_cases e3 : op.toList = [124, 124]
  · refine ret_of (rb_or op a b w _ HO g1 g2 g3 e3 k3) ?_
    rw [e3]
    show okR (boolA ((a.n == 1) || (b.n == 1))) = _
    refine okb ?_
    rcases ga.2 with h | h <;> rcases gb with h' | h' <;> rw [h, h'] <;> simp [wrap64]
  exact ret_of (rb_bool_none op a b w _ HO g1 g2 g3 (by simpa using e0) (by simpa using e1) (by simpa using e2) (by simpa using e3) k3) (by simp [boolsR, e0, e1, e2, e3])
end
theorem refBinary_any (op : ByteArray) (a b : Val) (w : World) (h0 : 0 ≤ a.b) (h1 : 0 ≤ b.b) (na : -9223372036854775808 ≤ a.n) (na2 : a.n ≤ 9223372036854775807) (nb : -9223372036854775808 ≤ b.n) (nb2 : b.n ≤ 9223372036854775807) :
    Calls Try.prog 16 #[.string op, .agg #[.int .i64 a.t, .int .i64 a.n, .int .u64 a.b], .agg #[.int .i64 b.t, .int .i64 b.n, .int .u64 b.b]] w (Ret w (binR op.toList a b)) := by
  by_cases h2 : a.good = false
  · exact ret_of (rb_bad1 op a b w h2) (by simp [binR, h2])
  have g1 : a.good = true := by simpa using h2
  by_cases h4 : b.good = false
  · exact ret_of (rb_bad2 op a b w g1 h4) (by simp [binR, g1, h4])
  have g2 : b.good = true := by simpa using h4
  by_cases h3 : a.t ≠ b.t
  · exact ret_of (rb_bad3 op a b w g1 g2 (by simpa using h3)) (by simp [binR, g1, g2, h3])
  have g3 : (a.t != b.t) = false := by simpa using h3
  by_cases t1 : a.t = 1
  · exact ref_int op a b w g1 g2 g3 h0 h1 na na2 nb nb2 t1
  by_cases t2 : a.t = 2
  · exact ref_flt op a b w g1 g2 g3 h0 h1 t2
  exact ref_bool op a b w g1 g2 g3 h0 h1 t1 t2

theorem binR_form (l : List UInt8) (a b : Val) : ∃ t n q f : Int, binR l a b = .tuple #[.agg #[.int .i64 t, .int .i64 n, .int .u64 q], .int .i64 f] := by
  unfold binR
  repeat' split
  all_goals first
    | exact badR_form _
    | exact okR_form _
    | exact intsR_form _ _ _
    | exact floatsR_form _ _ _
    | exact boolsR_form _ _ _
    | exact ⟨_, _, _, _, rfl⟩
end Go.Proofs.Ytdeabmijoaepcaa
