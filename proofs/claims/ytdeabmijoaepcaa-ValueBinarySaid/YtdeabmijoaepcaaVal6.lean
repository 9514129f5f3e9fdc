/-
  The walk of package value's Binary: two floats.
-/
import Derived.Test.YtdeabmijoaepcaaVal6a
import Derived.Deep.RegionHeld3
import Derived.Deep.DeepCutAuto
namespace Go.Proofs.Ytdeabmijoaepcaa
open Go.RowKit Go.Stk
set_option maxHeartbeats 10000000

theorem bin_flt (op : ByteArray) (a b : Val) (w : World) (t n q : Int) (is : Bool) (R : Value) (h : a.good = true) (h2 : b.good = true) (h3 : (a.t != b.t) = false) (h0 : (a.t == 1) = false) (h1 : (a.t == 2) = true) (HC : Hid (cmpRes (cmpV op.toList (FloatKind.f64.format.order a.b.toNat b.b.toNat == some .eq) (FloatKind.f64.format.order a.b.toNat b.b.toNat != some .eq) (FloatKind.f64.format.order a.b.toNat b.b.toNat == some .lt) (FloatKind.f64.format.order a.b.toNat b.b.toNat == some .lt || FloatKind.f64.format.order a.b.toNat b.b.toNat == some .eq) (FloatKind.f64.format.order a.b.toNat b.b.toNat == some .gt) (FloatKind.f64.format.order a.b.toNat b.b.toNat == some .gt || FloatKind.f64.format.order a.b.toNat b.b.toNat == some .eq)) = .tuple #[.agg #[.int .i64 t, .int .i64 n, .int .u64 q], .bool is])) (HR : Hid (R = if is then .tuple #[.agg #[.int .i64 t, .int .i64 n, .int .u64 q], .int .i64 0] else floatsR op.toList a.b.toNat b.b.toNat)) : Calls Try.prog 15 #[.string op, .agg #[.int .i64 a.t, .int .i64 a.n, .int .u64 a.b], .agg #[.int .i64 b.t, .int .i64 b.n, .int .u64 b.b]] w (Ret w R) := by
  have HA := Lib.hid h
  have HB := Lib.hid h2
  clear h h2
  go_enter Try.func15, Try.ntmps15
  go_wp2_with fail
  have hj := valGood_any a.t a.n a.b (((w.alloc (.cells #[.int .i64 a.t, .int .i64 a.n, .int .u64 a.b] 24)).alloc (.cells #[.int .i64 b.t, .int .i64 b.n, .int .u64 b.b] 24)).alloc (.cells #[.int .i64 0, .int .i64 0, .int .u64 0] 24))
  rw [show (Val.mk a.t a.n a.b).good = true from HA.out] at hj
  refine hj.mono ?_
  rintro e w1 ⟨rfl, hb⟩
  clear hj
  have hx := (boxes_new w a b 24).later hb
  replace hb := below_next (below_alloc (below_alloc (below_alloc (Below.refl w.heap.size w) _) _) _) hb
  obtain ⟨a0, a1, a2, b0, b1, b2, r0, r1, r2, f0, f1, f2, sz, s0, s1⟩ := hx
  go_wp2_with fail
  have hx : Boxes w.heap.size a b w1 := ⟨a0, a1, a2, b0, b1, b2, r0, r1, r2, f0, f1, f2, sz, s0, s1⟩
  have hj := valGood_any b.t b.n b.b w1
  rw [show (Val.mk b.t b.n b.b).good = true from HB.out] at hj
  refine hj.mono ?_
  rintro e w2 ⟨rfl, hbx⟩
  clear hj a0 a1 a2 b0 b1 b2 r0 r1 r2 f0 f1 f2 sz s0 s1
  obtain ⟨a0, a1, a2, b0, b1, b2, r0, r1, r2, f0, f1, f2, sz, s0, s1⟩ := hx.later hbx
  replace hb := below_next hb hbx
  clear hbx hx
  have hk : Kb w.heap.size a b w w2.drew := ⟨(Boxes.mk a0 a1 a2 b0 b1 b2 r0 r1 r2 f0 f1 f2 sz s0 s1).later (Below.refl _ _).drew, hb.drew⟩
  have hk0 : Kb w.heap.size a b w w2 := ⟨Boxes.mk a0 a1 a2 b0 b1 b2 r0 r1 r2 f0 f1 f2 sz s0 s1, hb⟩
  have HJ := Lib.hid (fun W => by have := cmpFloat_any op a.b.toNat b.b.toNat W; rw [show cmpRes _ = _ from HC] at this; exact this : ∀ W : World, Calls Try.prog 40 #[.string op, .float .f64 a.b.toNat, .float .f64 b.b.toNat] W (Ret W (.tuple #[.agg #[.int .i64 t, .int .i64 n, .int .u64 q], .bool is])))
  go_upto_region 10 with fail
  clear r0 r1 r2 f0 f1 f2 sz s0 s1
  go_cut [10, 11] (RelC w.heap.size a b w t n q is)
  case first =>
    have hkw := hk
    go_region_held3 (fun w' => w'.cell? ⟨w.heap.size, 0, none⟩ = some (.int .i64 a.t) ∧ w'.cell? ⟨w.heap.size, 1, none⟩ = some (.int .i64 a.n) ∧ w'.cell? ⟨w.heap.size, 2, none⟩ = some (.int .u64 a.b) ∧ w'.cell? ⟨w.heap.size + 1, 0, none⟩ = some (.int .i64 b.t) ∧ w'.cell? ⟨w.heap.size + 1, 1, none⟩ = some (.int .i64 b.n) ∧ w'.cell? ⟨w.heap.size + 1, 2, none⟩ = some (.int .u64 b.b) ∧ Kb w.heap.size a b w w')
      (first | exact hk.cells | exact (Kb.later (Kb.later hk0 ((Below.refl _ _).alloc (Nat.le_refl _) _)) (Below.refl _ _).drew).cells | (refine (Kb.set3 ?_ ?_ (Nat.le_refl _) _ _ _ _ _ _).cells <;> assumption) | (go_split_ands; refine (Kb.later ?_ hbx).cells; assumption) | (go_split_ands; refine Kb.cells ?_; assumption) | (go_split_ands; refine (Kb.later (W := w') ?_ ((Below.refl _ _).alloc (Nat.le_refl _) _)).cells; assumption) | (refine (Kb.later (W := w') ?_ ((Below.refl _ _).alloc (Nat.le_refl _) _)).cells; assumption))
      (first
        | (go_at_call 32; refine (flt_any _ _ _ _).mono ?_; rintro e w' ⟨rfl, hbx⟩; (try (apply Lc.step (hb := hbx); (first | assumption | exact lc_new hkw _ | exact (lc_new hk0 _).later (Below.refl _ _).drew); intro hl; obtain ⟨lo, l0, l1, l2, l3, l4, l5⟩ := hl.cells; (try simp only [World.drew] at lo l0 l1 l2 l3 l4 l5))); have hkw : Kb w.heap.size a b w w' := Kb.later (show (_ ∧ _ ∧ _ ∧ _ ∧ _ ∧ _ ∧ Kb w.heap.size a b w _) by assumption).2.2.2.2.2.2 hbx)
        | (go_at_call 40; refine (HJ.out _).mono ?_; rintro e w' ⟨rfl, hbx⟩; (try (apply Lc.step (hb := hbx); (first | assumption | exact lc_new hkw _ | exact (lc_new hk0 _).later (Below.refl _ _).drew); intro hl; obtain ⟨lo, l0, l1, l2, l3, l4, l5⟩ := hl.cells; (try simp only [World.drew] at lo l0 l1 l2 l3 l4 l5))); have hkw : Kb w.heap.size a b w w' := Kb.later (show (_ ∧ _ ∧ _ ∧ _ ∧ _ ∧ _ ∧ Kb w.heap.size a b w _) by assumption).2.2.2.2.2.2 hbx))
    all_goals
      go_wp2_with fail
      go_meet
      first
        | exact relC_alloc hkw
        | exact relC_set hkw (Nat.le_refl _) lo l0 l1 l2
  case rest =>
    obtain ⟨B, rfl, rfl, l0, l1, l2, lo, hB, ⟨⟨a0, a1, a2, b0, b1, b2, r0, r1, r2, f0, f1, f2, sz, s0, s1⟩, hbw⟩⟩ := hcut
    clear hk hk0 HJ HC hb
    cases is
    · obtain ⟨t2, n2, q2, f9, E⟩ := floatsR_form op.toList a.b.toNat b.b.toNat
      have HE := Lib.hid E
      have HJ := Lib.hid (fun W => by have := floats_any op a.b.toNat b.b.toNat W; rw [E] at this; exact this : ∀ W : World, Calls Try.prog 41 #[.string op, .float .f64 a.b.toNat, .float .f64 b.b.toNat] W (Ret W (.tuple #[.agg #[.int .i64 t2, .int .i64 n2, .int .u64 q2], .int .i64 f9])))
      clear E
      have hk : Kc w.heap.size a b w wc.drew := (Kc.mk a0 a1 a2 b0 b1 b2 hbw).later (Below.refl _ _).drew
      have hlu : Lu (w.heap.size + 1 + 1) wc.drew := Lu.drew ⟨r0, r1, r2, f0, f1, f2, sz⟩
      have hlt : w.heap.size + 1 < w.heap.size + 1 + 1 := Nat.lt_succ_self _
      go_wp2_with fail
      clear r0 r1 r2 f0 f1 f2 sz s0 s1
      go_region_held3 (fun w' => w'.cell? ⟨w.heap.size, 0, none⟩ = some (.int .i64 a.t) ∧ w'.cell? ⟨w.heap.size, 1, none⟩ = some (.int .i64 a.n) ∧ w'.cell? ⟨w.heap.size, 2, none⟩ = some (.int .u64 a.b) ∧ w'.cell? ⟨w.heap.size + 1, 0, none⟩ = some (.int .i64 b.t) ∧ w'.cell? ⟨w.heap.size + 1, 1, none⟩ = some (.int .i64 b.n) ∧ w'.cell? ⟨w.heap.size + 1, 2, none⟩ = some (.int .u64 b.b) ∧ Kc w.heap.size a b w w')
        (first | exact hk.cells | assumption | (go_split_ands; refine (Kc.later ?_ hbx).cells; assumption) | (go_split_ands; refine Kc.cells ?_; assumption) | (go_split_ands; refine (Kc.set3 ?_ hlt (Nat.le_refl _) _ _ _ _ _ _).cells; assumption))
        (first
          | (go_at_call 32; refine (flt_any _ _ _ _).mono ?_; rintro e w' ⟨rfl, hbx⟩; apply Lu.step (hb := hbx); (first | assumption); intro hl; obtain ⟨l0, l1, l2, l3, l4, l5⟩ := hl.cells)
          | (go_at_call 41; refine (HJ.out _).mono ?_; rintro e w' ⟨rfl, hbx⟩; apply Lu.step (hb := hbx); (first | assumption); intro hl; obtain ⟨l0, l1, l2, l3, l4, l5⟩ := hl.cells))
      all_goals
        go_wp2
        exact bodyPost_ret (v := .tuple #[.agg #[.int .i64 t2, .int .i64 n2, .int .u64 q2], .int .i64 f9]) (by simp [results, Try.results15, go_sem, l0, l1, l2]) rfl ⟨by rw [HR.out, HE.out]; rfl, (show (_ ∧ _ ∧ _ ∧ _ ∧ _ ∧ _ ∧ Kc w.heap.size a b w _) by assumption).2.2.2.2.2.2.bl⟩
    · go_wp2
      exact bodyPost_ret (v := .tuple #[.agg #[.int .i64 t, .int .i64 n, .int .u64 q], .int .i64 0]) (by simp [results, Try.results15, go_sem, r0, r1, r2]) rfl ⟨by rw [HR.out]; rfl, by repeat (first | exact hbw | refine below_setB ?_ (by omega) _ _ | refine below_alloc ?_ _)⟩
end Go.Proofs.Ytdeabmijoaepcaa
