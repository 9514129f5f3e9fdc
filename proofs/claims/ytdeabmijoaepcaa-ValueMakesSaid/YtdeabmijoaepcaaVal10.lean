/-
  The walk of package value's Unary: two floats' ways; all ways together.
-/
import Derived.Test.YtdeabmijoaepcaaVal9
import Derived.Test.YtdeabmijoaepcaaFlt
import Derived.Deep.RegionHeld3
namespace Go.Proofs.Ytdeabmijoaepcaa
open Go.RowKit Go.Stk
set_option maxHeartbeats 2000000

theorem toInt_any (b : Nat) (w : World) : Calls Try.prog 33 #[.float .f64 b] w (Ret w (toIntR b)) := by
  unfold toIntR
  cases h : nanB b
  · cases h1 : (FloatKind.f64.format.order b 4890909195324358656 == some .gt || FloatKind.f64.format.order b 4890909195324358656 == some .eq)
    · cases h2 : (FloatKind.f64.format.order b 14114281232179134464 == some .lt)
      · obtain ⟨n, hn⟩ := toInt_fits b h h1 h2
        rw [if_neg (by simp), if_neg (by simp), if_neg (by simp), hn]
        exact toInt_ok b n w h h1 h2 hn
      · rw [if_neg (by simp), if_neg (by simp), if_pos rfl]
        exact toInt_low b w h h1 h2
    · rw [if_neg (by simp), if_pos rfl]
      exact toInt_high b w h h1
  · rw [if_pos rfl]
    exact toInt_nan b w h
theorem toIntR_form (b : Nat) : ∃ t n q f : Int, toIntR b = .tuple #[.agg #[.int .i64 t, .int .i64 n, .int .u64 q], .int .i64 f] := by
  unfold toIntR
  repeat' split
  all_goals exact ⟨_, _, _, _, rfl⟩

theorem un_int_flt (op : ByteArray) (a : Val) (w : World) (h : a.good = true) (ho : op.toList = [105, 110, 116]) (h1 : (a.t == 2) = true) : Calls Try.prog 13 #[.string op, .agg #[.int .i64 a.t, .int .i64 a.n, .int .u64 a.b]] w (Ret w (toIntR a.b.toNat)) := by
  have HA := Lib.hid h
  clear h
  go_enter Try.func13, Try.ntmps13
  go_wp2_with fail
  have hj := valGood_any a.t a.n a.b ((w.alloc (.cells #[.int .i64 a.t, .int .i64 a.n, .int .u64 a.b] 24)).alloc (.cells #[.int .i64 0, .int .i64 0, .int .u64 0] 24))
  rw [show (Val.mk a.t a.n a.b).good = true from HA.out] at hj
  refine hj.mono ?_
  rintro e w1 ⟨rfl, hb⟩
  clear hj
  have hx := (box1_new w a 24).later hb
  replace hb := below_next (below_alloc (below_alloc (Below.refl w.heap.size w) _) _) hb
  obtain ⟨a0, a1, a2, r0, r1, r2, f0, f1, f2, sz, s0⟩ := hx
  go_wp2_with fail
  have hx : Box1 w.heap.size a w1 := ⟨a0, a1, a2, r0, r1, r2, f0, f1, f2, sz, s0⟩
  refine (flt_any _ _ _ _).mono ?_
  rintro e w2 ⟨rfl, hbx⟩
  clear a0 a1 a2 r0 r1 r2 f0 f1 f2 sz s0
  obtain ⟨a0, a1, a2, r0, r1, r2, f0, f1, f2, sz, s0⟩ := hx.later hbx
  replace hb := below_next hb hbx
  clear hbx hx
  go_wp2_with fail
  have hx : Box1 w.heap.size a w2 := ⟨a0, a1, a2, r0, r1, r2, f0, f1, f2, sz, s0⟩
  obtain ⟨t, n, q, f, E⟩ := toIntR_form a.b.toNat
  have hj := toInt_any a.b.toNat w2
  rw [E] at hj
  refine hj.mono ?_
  rintro e w3 ⟨rfl, hbx⟩
  clear hj a0 a1 a2 r0 r1 r2 f0 f1 f2 sz s0
  obtain ⟨a0, a1, a2, r0, r1, r2, f0, f1, f2, sz, s0⟩ := hx.later hbx
  replace hb := below_next hb hbx
  clear hbx hx
  have EH := Lib.hid E
  clear E
  go_wp2
  exact bodyPost_ret (v := .tuple #[.agg #[.int .i64 t, .int .i64 n, .int .u64 q], .int .i64 f]) (by simp [results, Try.results13, go_sem, r0, r1, r2]) rfl ⟨by rw [EH.out], by repeat (first | exact hb | exact Below.refl _ _ | refine below_setB ?_ (by omega) _ _ | refine below_alloc ?_ _)⟩

/-- A box, and what lay there before; a result's cells. -/
structure Ku (A : Nat) (a : Val) (w W : World) : Prop where
  a0 : W.cell? ⟨A, 0, none⟩ = some (.int .i64 a.t)
  a1 : W.cell? ⟨A, 1, none⟩ = some (.int .i64 a.n)
  a2 : W.cell? ⟨A, 2, none⟩ = some (.int .u64 a.b)
  sz : A < W.heap.size
  bl : Below w.heap.size w W
theorem Ku.later {A : Nat} {a : Val} {w W W' : World} (h : Ku A a w W) (hb : Below W.heap.size W W') : Ku A a w W' := ⟨cell_later hb h.a0, cell_later hb h.a1, cell_later hb h.a2, Nat.lt_of_lt_of_le h.sz hb.size, below_next h.bl hb⟩
theorem Ku.drew {A : Nat} {a : Val} {w W : World} (h : Ku A a w W) : Ku A a w W.drew := h.later (Below.refl _ _).drew
theorem Ku.cells {A : Nat} {a : Val} {w W : World} (h : Ku A a w W) : W.cell? ⟨A, 0, none⟩ = some (.int .i64 a.t) ∧ W.cell? ⟨A, 1, none⟩ = some (.int .i64 a.n) ∧ W.cell? ⟨A, 2, none⟩ = some (.int .u64 a.b) ∧ Ku A a w W := ⟨h.a0, h.a1, h.a2, h⟩
theorem Ku.set {A B : Nat} {a : Val} {w W : World} (h : Ku A a w W) (hB : A < B) (hw : w.heap.size ≤ A) (i : Nat) (v : Value) : Ku A a w (W.setCell ⟨B, i, none⟩ v) :=
  ⟨by rw [cell_set_ne (by simp; omega)]; exact h.a0, by rw [cell_set_ne (by simp; omega)]; exact h.a1, by rw [cell_set_ne (by simp; omega)]; exact h.a2, by simpa using h.sz, h.bl.setCell (p := ⟨B, i, none⟩) (show w.heap.size ≤ B by omega) _⟩
theorem Ku.set3 {A B : Nat} {a : Val} {w W : World} (h : Ku A a w W) (hB : A < B) (hw : w.heap.size ≤ A) (i j k : Nat) (u v z : Value) : Ku A a w (((W.setCell ⟨B, i, none⟩ u).setCell ⟨B, j, none⟩ v).setCell ⟨B, k, none⟩ z) := ((h.set hB hw i u).set hB hw j v).set hB hw k z
/-- The cells of a result, seen later. -/
structure Lu (B : Nat) (W : World) : Prop where
  c0 : W.cell? ⟨B, 0, none⟩ = some (.int .i64 0)
  c1 : W.cell? ⟨B, 1, none⟩ = some (.int .i64 0)
  c2 : W.cell? ⟨B, 2, none⟩ = some (.int .u64 0)
  f0 : W.frozen? ⟨B, 0, none⟩ = false
  f1 : W.frozen? ⟨B, 1, none⟩ = false
  f2 : W.frozen? ⟨B, 2, none⟩ = false
  sz : B < W.heap.size
theorem Lu.later {B : Nat} {W W' : World} (h : Lu B W) (hb : Below W.heap.size W W') : Lu B W' := by
  have hs := h.sz
  have h2 := hb.size
  exact ⟨cell_later hb h.c0, cell_later hb h.c1, cell_later hb h.c2, (hb.frozen (p := ⟨B, 0, none⟩) hs).trans h.f0, (hb.frozen (p := ⟨B, 1, none⟩) hs).trans h.f1, (hb.frozen (p := ⟨B, 2, none⟩) hs).trans h.f2, by omega⟩
theorem Lu.drew {B : Nat} {W : World} (h : Lu B W) : Lu B W.drew := h.later (Below.refl _ _).drew
theorem Lu.step {B : Nat} {W W' : World} {G : Prop} (hl : Lu B W) (hb : Below W.heap.size W W') (k : Lu B W' → G) : G := k (hl.later hb)
theorem Lu.cells {B : Nat} {W : World} (h : Lu B W) : W.cell? ⟨B, 0, none⟩ = some (.int .i64 0) ∧ W.cell? ⟨B, 1, none⟩ = some (.int .i64 0) ∧ W.cell? ⟨B, 2, none⟩ = some (.int .u64 0) ∧ W.frozen? ⟨B, 0, none⟩ = false ∧ W.frozen? ⟨B, 1, none⟩ = false ∧ W.frozen? ⟨B, 2, none⟩ = false := ⟨h.c0, h.c1, h.c2, h.f0, h.f1, h.f2⟩
theorem un_neg_some (op : ByteArray) (a : Val) (w : World) (r : Nat) (hr : FloatKind.f64.format.mul 13830554455654793216 a.b.toNat = some r) (h : a.good = true) (ho : op.toList = [45]) (h0 : (a.t == 1) = false) (h1 : (a.t == 2) = true) : Calls Try.prog 13 #[.string op, .agg #[.int .i64 a.t, .int .i64 a.n, .int .u64 a.b]] w (Ret w (okR (fltV (cameB r)))) := by
  have hrun := run_some (P := Try.prog) .mul 34 13830554455654793216 a.b.toNat r (Or.inr (Or.inr (Or.inl ⟨rfl, hr⟩)))
  clear hr
  have HA := Lib.hid h
  clear h
  go_enter Try.func13, Try.ntmps13
  go_wp2_with fail
  have hj := valGood_any a.t a.n a.b ((w.alloc (.cells #[.int .i64 a.t, .int .i64 a.n, .int .u64 a.b] 24)).alloc (.cells #[.int .i64 0, .int .i64 0, .int .u64 0] 24))
  rw [show (Val.mk a.t a.n a.b).good = true from HA.out] at hj
  refine hj.mono ?_
  rintro e w1 ⟨rfl, hb⟩
  clear hj
  have hx := (box1_new w a 24).later hb
  replace hb := below_next (below_alloc (below_alloc (Below.refl w.heap.size w) _) _) hb
  obtain ⟨a0, a1, a2, r0, r1, r2, f0, f1, f2, sz, s0⟩ := hx
  have hk : Ku w.heap.size a w w1.drew := ⟨a0, a1, a2, s0, hb.drew⟩
  have hlu : Lu (w.heap.size + 1) w1.drew := ⟨r0, r1, r2, f0, f1, f2, sz⟩
  have hlt : w.heap.size < w.heap.size + 1 := Nat.lt_succ_self _
  go_wp2_with fail
  clear hb s0 sz
  go_region_held3 (fun w' => w'.cell? ⟨w.heap.size, 0, none⟩ = some (.int .i64 a.t) ∧ w'.cell? ⟨w.heap.size, 1, none⟩ = some (.int .i64 a.n) ∧ w'.cell? ⟨w.heap.size, 2, none⟩ = some (.int .u64 a.b) ∧ Ku w.heap.size a w w')
    (first | exact hk.cells | assumption | (go_split_ands; refine (Ku.later ?_ hbx).cells; assumption) | (go_split_ands; refine Ku.cells ?_; assumption) | (go_split_ands; refine (Ku.drew ?_).cells; assumption) | (go_split_ands; refine (Ku.set3 ?_ hlt (Nat.le_refl _) _ _ _ _ _ _).cells; assumption))
    (first
      | (go_at_call 31; refine (copysign_neg _).mono ?_; rintro e w' ⟨rfl, rfl⟩)
      | (go_at_call 32; refine (flt_any _ _ _ _).mono ?_; rintro e w' ⟨rfl, hbx⟩; apply Lu.step (hb := hbx); (first | assumption | exact Lu.drew hl); intro hl; obtain ⟨l0, l1, l2, l3, l4, l5⟩ := hl.cells)
      | (go_at_call 30; refine (came_any _ _).mono ?_; rintro e w' ⟨rfl, hbx⟩; apply Lu.step (hb := hbx); (first | assumption | exact Lu.drew hl); intro hl; obtain ⟨l0, l1, l2, l3, l4, l5⟩ := hl.cells))
  all_goals
    go_wp2
    exact bodyPost_ret (v := .tuple #[.agg #[.int .i64 2, .int .i64 0, .int .u64 (cameB r : Nat)], .int .i64 0]) (by simp [results, Try.results13, go_sem, l0, l1, l2]) rfl ⟨rfl, (show (_ ∧ _ ∧ _ ∧ Ku w.heap.size a w _) by assumption).2.2.2.bl⟩
theorem un_neg_none (op : ByteArray) (a : Val) (w : World) (hr : FloatKind.f64.format.mul 13830554455654793216 a.b.toNat = none) (h : a.good = true) (ho : op.toList = [45]) (h0 : (a.t == 1) = false) (h1 : (a.t == 2) = true) : Calls Try.prog 13 #[.string op, .agg #[.int .i64 a.t, .int .i64 a.n, .int .u64 a.b]] w (Ret w (okR (fltV 9221120237041090561))) := by
  have hrun := run_nan (P := Try.prog) .mul 34 13830554455654793216 a.b.toNat (Or.inr (Or.inr (Or.inl ⟨rfl, hr⟩)))
  clear hr
  have HA := Lib.hid h
  clear h
  go_enter Try.func13, Try.ntmps13
  go_wp2_with fail
  have hj := valGood_any a.t a.n a.b ((w.alloc (.cells #[.int .i64 a.t, .int .i64 a.n, .int .u64 a.b] 24)).alloc (.cells #[.int .i64 0, .int .i64 0, .int .u64 0] 24))
  rw [show (Val.mk a.t a.n a.b).good = true from HA.out] at hj
  refine hj.mono ?_
  rintro e w1 ⟨rfl, hb⟩
  clear hj
  have hx := (box1_new w a 24).later hb
  replace hb := below_next (below_alloc (below_alloc (Below.refl w.heap.size w) _) _) hb
  obtain ⟨a0, a1, a2, r0, r1, r2, f0, f1, f2, sz, s0⟩ := hx
  have hk : Ku w.heap.size a w w1.drew := ⟨a0, a1, a2, s0, hb.drew⟩
  have hlu : Lu (w.heap.size + 1) w1.drew := ⟨r0, r1, r2, f0, f1, f2, sz⟩
  have hlt : w.heap.size < w.heap.size + 1 := Nat.lt_succ_self _
  go_wp2_with fail
  clear hb s0 sz
  go_region_with
    (first
      | (go_at_call 31; refine (copysign_neg _).mono ?_; rintro e w' ⟨rfl, rfl⟩)
      | (go_at_call 32; refine (flt_any _ _ _ _).mono ?_; rintro e w' ⟨rfl, hbx⟩; replace hk := Ku.later hk hbx; replace hlu := Lu.later hlu hbx; obtain ⟨a0, a1, a2, k0⟩ := hk.cells; obtain ⟨l0, l1, l2, l3, l4, l5⟩ := hlu.cells)
      | (go_at_call 30; refine (came_nan _ _ (nanB_pick _ _ _)).mono ?_; rintro e w' ⟨rfl, hbx⟩; replace hk := Ku.later (Ku.drew hk) hbx; replace hlu := Lu.later (Lu.drew hlu) hbx; obtain ⟨a0, a1, a2, k0⟩ := hk.cells; obtain ⟨l0, l1, l2, l3, l4, l5⟩ := hlu.cells))
  all_goals
    go_wp2
    exact bodyPost_ret (v := .tuple #[.agg #[.int .i64 2, .int .i64 0, .int .u64 (9221120237041090561 : Nat)], .int .i64 0]) (by simp [results, Try.results13, go_sem, l0, l1, l2]) rfl ⟨rfl, (hk.set3 hlt (Nat.le_refl _) _ _ _ _ _ _).bl⟩

/-- What Unary makes of a value. -/
def unR (l : List UInt8) (a : Val) : Value :=
  if a.good = false then badR (-1)
  else if l = [45] then (if a.t = 1 then okR (intA (wrap64 (-a.n))) else if a.t = 2 then okR (fltV (cameO (FloatKind.f64.format.mul 13830554455654793216 a.b.toNat))) else badR (-1))
  else if l = [33] then (if a.t = 3 then okR (boolA (a.n == 0)) else badR (-1))
  else if l = [105, 110, 116] then (if a.t = 2 then toIntR a.b.toNat else badR (-1))
  else if l = [102, 108, 111, 97, 116] then (if a.t = 1 then okR (fltV (floatOfInt .f64 a.n)) else badR (-1))
  else badR (-1)
theorem unary_any (op : ByteArray) (a : Val) (w : World) : Calls Try.prog 13 #[.string op, .agg #[.int .i64 a.t, .int .i64 a.n, .int .u64 a.b]] w (Ret w (unR op.toList a)) := by
  unfold unR
  by_cases h : a.good = false
  · rw [if_pos h]; exact un_bad op a w h
  have hg : a.good = true := by simpa using h
  rw [if_neg h]
  by_cases h1 : op.toList = [45]
  · rw [if_pos h1]
    by_cases t1 : a.t = 1
    · rw [if_pos t1]; exact un_minus_int op a w hg h1 (by simpa using t1)
    rw [if_neg t1]
    by_cases t2 : a.t = 2
    · rw [if_pos t2]
      cases hr : FloatKind.f64.format.mul 13830554455654793216 a.b.toNat with
      | some r => exact un_neg_some op a w r hr hg h1 (by simpa using t1) (by simpa using t2)
      | none => exact un_neg_none op a w hr hg h1 (by simpa using t1) (by simpa using t2)
    rw [if_neg t2]; exact un_minus_none op a w hg h1 (by simpa using t1) (by simpa using t2)
  rw [if_neg h1]
  by_cases h2 : op.toList = [33]
  · rw [if_pos h2]
    by_cases t1 : a.t = 3
    · rw [if_pos t1]; exact un_not_bool op a w hg h2 (by simpa using t1)
    rw [if_neg t1]; exact un_not_none op a w hg h2 (by simpa using t1)
  rw [if_neg h2]
  by_cases h3 : op.toList = [105, 110, 116]
  · rw [if_pos h3]
    by_cases t1 : a.t = 2
    · rw [if_pos t1]; exact un_int_flt op a w hg h3 (by simpa using t1)
    rw [if_neg t1]; exact un_int_none op a w hg h3 (by simpa using t1)
  rw [if_neg h3]
  by_cases h4 : op.toList = [102, 108, 111, 97, 116]
  · rw [if_pos h4]
    by_cases t1 : a.t = 1
    · rw [if_pos t1]; exact un_float_int op a w hg h4 (by simpa using t1)
    rw [if_neg t1]; exact un_float_none op a w hg h4 (by simpa using t1)
  rw [if_neg h4]
  exact un_none op a w hg (by simpa using h1) (by simpa using h2) (by simpa using h3) (by simpa using h4)
end Go.Proofs.Ytdeabmijoaepcaa
