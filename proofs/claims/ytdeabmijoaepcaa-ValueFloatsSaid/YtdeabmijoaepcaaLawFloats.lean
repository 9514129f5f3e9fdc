/-
  The walk of ValueFloats.
-/
import Derived.Test.YtdeabmijoaepcaaVal11
import Derived.Test.YtdeabmijoaepcaaFlt4
import Derived.Test.YtdeabmijoaepcaaRef1
namespace Go.Proofs.Ytdeabmijoaepcaa
open Go.RowKit Go.Stk
set_option maxHeartbeats 4000000

theorem binF (l : Array UInt8) (a b : Nat) (z : Bool) (w : World) (h : Hid (cmpV (l.toList) (FloatKind.f64.format.order a b == some .eq) (FloatKind.f64.format.order a b != some .eq) (FloatKind.f64.format.order a b == some .lt) (FloatKind.f64.format.order a b == some .lt || FloatKind.f64.format.order a b == some .eq) (FloatKind.f64.format.order a b == some .gt) (FloatKind.f64.format.order a b == some .gt || FloatKind.f64.format.order a b == some .eq) = some z)) : Calls Try.prog 15 #[.string ⟨l⟩, .agg #[.int .i64 2, .int .i64 0, .int .u64 a], .agg #[.int .i64 2, .int .i64 0, .int .u64 b]] w (Ret w (.tuple #[.agg #[.int .i64 3, .int .i64 (b2i z), .int .u64 0], .int .i64 0])) :=
  bin_flt ⟨l⟩ ⟨2, 0, a⟩ ⟨2, 0, b⟩ w 3 (b2i z) 0 true _ rfl rfl rfl rfl rfl (Lib.hid (by rw [bl]; exact congrArg cmpRes (show cmpV l.toList _ _ _ _ _ _ = some z from h))) (Lib.hid rfl)
theorem isF (l : Array UInt8) (p q : Nat) (a b : Nat) (z : Bool) (w : World) (hA : L3 p (.int .i64 2) (.int .i64 0) (.int .u64 a) w) (hB : L3 q (.int .i64 2) (.int .i64 0) (.int .u64 b) w) (h : Hid (cmpV (l.toList) (FloatKind.f64.format.order a b == some .eq) (FloatKind.f64.format.order a b != some .eq) (FloatKind.f64.format.order a b == some .lt) (FloatKind.f64.format.order a b == some .lt || FloatKind.f64.format.order a b == some .eq) (FloatKind.f64.format.order a b == some .gt) (FloatKind.f64.format.order a b == some .gt || FloatKind.f64.format.order a b == some .eq) = some z)) : Calls Try.prog 19 #[.string ⟨l⟩, .pointer (some ⟨p, 0, none⟩), .pointer (some ⟨q, 0, none⟩)] w (Ret w (.bool z)) := by
  obtain ⟨a0, a1, a2, asz⟩ := hA.all
  obtain ⟨b0, b1, b2, bsz⟩ := hB.all
  clear hA hB
  go_enter Try.func19, Try.ntmps19
  go_wp2_with fail
  refine (binF l a b z w h).mono ?_
  rintro e w1 ⟨rfl, hbx⟩
  have hb := hbx
  clear hbx
  go_wp2_with fail
  refine (valTrue_any 3 (b2i z) 0 (w1.alloc (.cells #[.int .i64 3, .int .i64 (b2i z), .int .u64 0] 24))).mono ?_
  rintro e w2 ⟨rfl, hbx⟩
  have pr := (lc3_new w1 (.int .i64 3) (.int .i64 (b2i z)) (.int .u64 0) 24)
  replace pr := pr.later hbx
  replace hbx := below_next (below_alloc (Below.refl w1.heap.size w1) (.cells #[.int .i64 3, .int .i64 (b2i z), .int .u64 0] 24)) hbx
  replace hb := below_next hb hbx
  clear hbx
  obtain ⟨c0pr, c1pr, c2pr, szpr⟩ := pr.all
  have e : ((3 : Int) == 3 && b2i z == 1) = z := by cases z <;> rfl
  rw [e]
  go_wp2
  go_ret
  exact ⟨rfl, hb⟩
theorem refNaN_is (a : Nat) (z : Bool) (w : World) (h : Hid (nanB a = z)) : Calls Try.prog 21 #[.int .u64 a] w (fun e w' => e = .returned (.bool z) ∧ w = w') := by
  have := refNaN_any a w
  rwa [show nanB a = z from h] at this

theorem floats_nan1 (a b : Nat) (w : World)  (ho : FloatKind.f64.format.order a b = none) (HA : Hid (nanB a = true))  : Calls Try.prog 8 #[.int .u64 a, .int .u64 b] w (Ret w (.bool true)) := by
  have H0 := Lib.hid (show cmpV (Array.toList #[61, 61]) (FloatKind.f64.format.order a b == some .eq) (FloatKind.f64.format.order a b != some .eq) (FloatKind.f64.format.order a b == some .lt) (FloatKind.f64.format.order a b == some .lt || FloatKind.f64.format.order a b == some .eq) (FloatKind.f64.format.order a b == some .gt) (FloatKind.f64.format.order a b == some .gt || FloatKind.f64.format.order a b == some .eq) = some false by rw [ho]; rfl)
  have H1 := Lib.hid (show cmpV (Array.toList #[60]) (FloatKind.f64.format.order a b == some .eq) (FloatKind.f64.format.order a b != some .eq) (FloatKind.f64.format.order a b == some .lt) (FloatKind.f64.format.order a b == some .lt || FloatKind.f64.format.order a b == some .eq) (FloatKind.f64.format.order a b == some .gt) (FloatKind.f64.format.order a b == some .gt || FloatKind.f64.format.order a b == some .eq) = some false by rw [ho]; rfl)
  have H2 := Lib.hid (show cmpV (Array.toList #[62]) (FloatKind.f64.format.order a b == some .eq) (FloatKind.f64.format.order a b != some .eq) (FloatKind.f64.format.order a b == some .lt) (FloatKind.f64.format.order a b == some .lt || FloatKind.f64.format.order a b == some .eq) (FloatKind.f64.format.order a b == some .gt) (FloatKind.f64.format.order a b == some .gt || FloatKind.f64.format.order a b == some .eq) = some false by rw [ho]; rfl)
  have H3 := Lib.hid (show cmpV (Array.toList #[60, 61]) (FloatKind.f64.format.order a b == some .eq) (FloatKind.f64.format.order a b != some .eq) (FloatKind.f64.format.order a b == some .lt) (FloatKind.f64.format.order a b == some .lt || FloatKind.f64.format.order a b == some .eq) (FloatKind.f64.format.order a b == some .gt) (FloatKind.f64.format.order a b == some .gt || FloatKind.f64.format.order a b == some .eq) = some false by rw [ho]; rfl)
  have H4 := Lib.hid (show cmpV (Array.toList #[62, 61]) (FloatKind.f64.format.order a b == some .eq) (FloatKind.f64.format.order a b != some .eq) (FloatKind.f64.format.order a b == some .lt) (FloatKind.f64.format.order a b == some .lt || FloatKind.f64.format.order a b == some .eq) (FloatKind.f64.format.order a b == some .gt) (FloatKind.f64.format.order a b == some .gt || FloatKind.f64.format.order a b == some .eq) = some false by rw [ho]; rfl)
  have H5 := Lib.hid (show cmpV (Array.toList #[33, 61]) (FloatKind.f64.format.order a b == some .eq) (FloatKind.f64.format.order a b != some .eq) (FloatKind.f64.format.order a b == some .lt) (FloatKind.f64.format.order a b == some .lt || FloatKind.f64.format.order a b == some .eq) (FloatKind.f64.format.order a b == some .gt) (FloatKind.f64.format.order a b == some .gt || FloatKind.f64.format.order a b == some .eq) = some true by rw [ho]; rfl)
  clear ho
  go_enter Try.func8, Try.ntmps8
  go_wp2_with fail
  refine (alive_any w).mono ?_
  rintro e w1 ⟨rfl, hbx⟩
  have hb := hbx
  clear hbx
  go_wp2_with fail
  have px := (lc3_new w1 (.int .i64 2) (.int .i64 0) (.int .u64 (a : Nat)) 24).later ((Below.refl (w1.alloc (.cells #[.int .i64 2, .int .i64 0, .int .u64 (a : Nat)] 24)).heap.size (w1.alloc (.cells #[.int .i64 2, .int .i64 0, .int .u64 (a : Nat)] 24))).alloc (Nat.le_refl _) (.cells #[.int .i64 2, .int .i64 0, .int .u64 (b : Nat)] 24))
  have py := (lc3_new2 w1 (.cells #[.int .i64 2, .int .i64 0, .int .u64 (a : Nat)] 24) (.int .i64 2) (.int .i64 0) (.int .u64 (b : Nat)) 24)
  replace hb := (below_alloc (below_alloc hb (.cells #[.int .i64 2, .int .i64 0, .int .u64 (a : Nat)] 24)) (.cells #[.int .i64 2, .int .i64 0, .int .u64 (b : Nat)] 24))
  go_wp2_with fail
  refine (isF #[61, 61] _ _ a b false ((w1.alloc (.cells #[.int .i64 2, .int .i64 0, .int .u64 (a : Nat)] 24)).alloc (.cells #[.int .i64 2, .int .i64 0, .int .u64 (b : Nat)] 24)) px py H0).mono ?_
  rintro e w2 ⟨rfl, hbx⟩
  replace px := px.later hbx
  replace py := py.later hbx
  replace hb := below_next hb hbx
  clear hbx
  obtain ⟨c0px, c1px, c2px, szpx⟩ := px.all
  obtain ⟨c0py, c1py, c2py, szpy⟩ := py.all
  go_wp2_with fail
  refine (isF #[60] _ _ a b false w2 px py H1).mono ?_
  rintro e w3 ⟨rfl, hbx⟩
  replace px := px.later hbx
  replace py := py.later hbx
  replace hb := below_next hb hbx
  clear hbx
  obtain ⟨c0px, c1px, c2px, szpx⟩ := px.all
  obtain ⟨c0py, c1py, c2py, szpy⟩ := py.all
  go_wp2_with fail
  refine (isF #[62] _ _ a b false w3 px py H2).mono ?_
  rintro e w4 ⟨rfl, hbx⟩
  replace px := px.later hbx
  replace py := py.later hbx
  replace hb := below_next hb hbx
  clear hbx
  obtain ⟨c0px, c1px, c2px, szpx⟩ := px.all
  obtain ⟨c0py, c1py, c2py, szpy⟩ := py.all
  go_wp2_with fail
  refine (refNaN_is a true w4 HA).mono ?_
  rintro e w' ⟨rfl, rfl⟩
  go_wp2_with fail
  refine (isF #[60, 61] _ _ a b false w4 px py H3).mono ?_
  rintro e w5 ⟨rfl, hbx⟩
  replace px := px.later hbx
  replace py := py.later hbx
  replace hb := below_next hb hbx
  clear hbx
  obtain ⟨c0px, c1px, c2px, szpx⟩ := px.all
  obtain ⟨c0py, c1py, c2py, szpy⟩ := py.all
  go_wp2_with fail
  refine (isF #[62, 61] _ _ a b false w5 px py H4).mono ?_
  rintro e w6 ⟨rfl, hbx⟩
  replace px := px.later hbx
  replace py := py.later hbx
  replace hb := below_next hb hbx
  clear hbx
  obtain ⟨c0px, c1px, c2px, szpx⟩ := px.all
  obtain ⟨c0py, c1py, c2py, szpy⟩ := py.all
  go_wp2_with fail
  refine (isF #[33, 61] _ _ a b true w6 px py H5).mono ?_
  rintro e w7 ⟨rfl, hbx⟩
  replace px := px.later hbx
  replace py := py.later hbx
  replace hb := below_next hb hbx
  clear hbx
  obtain ⟨c0px, c1px, c2px, szpx⟩ := px.all
  obtain ⟨c0py, c1py, c2py, szpy⟩ := py.all
  go_wp2
  go_ret
  exact ⟨rfl, hb⟩

theorem floats_nan2 (a b : Nat) (w : World)  (ho : FloatKind.f64.format.order a b = none) (HA : Hid (nanB a = false)) (HB : Hid (nanB b = true)) : Calls Try.prog 8 #[.int .u64 a, .int .u64 b] w (Ret w (.bool true)) := by
  have H0 := Lib.hid (show cmpV (Array.toList #[61, 61]) (FloatKind.f64.format.order a b == some .eq) (FloatKind.f64.format.order a b != some .eq) (FloatKind.f64.format.order a b == some .lt) (FloatKind.f64.format.order a b == some .lt || FloatKind.f64.format.order a b == some .eq) (FloatKind.f64.format.order a b == some .gt) (FloatKind.f64.format.order a b == some .gt || FloatKind.f64.format.order a b == some .eq) = some false by rw [ho]; rfl)
  have H1 := Lib.hid (show cmpV (Array.toList #[60]) (FloatKind.f64.format.order a b == some .eq) (FloatKind.f64.format.order a b != some .eq) (FloatKind.f64.format.order a b == some .lt) (FloatKind.f64.format.order a b == some .lt || FloatKind.f64.format.order a b == some .eq) (FloatKind.f64.format.order a b == some .gt) (FloatKind.f64.format.order a b == some .gt || FloatKind.f64.format.order a b == some .eq) = some false by rw [ho]; rfl)
  have H2 := Lib.hid (show cmpV (Array.toList #[62]) (FloatKind.f64.format.order a b == some .eq) (FloatKind.f64.format.order a b != some .eq) (FloatKind.f64.format.order a b == some .lt) (FloatKind.f64.format.order a b == some .lt || FloatKind.f64.format.order a b == some .eq) (FloatKind.f64.format.order a b == some .gt) (FloatKind.f64.format.order a b == some .gt || FloatKind.f64.format.order a b == some .eq) = some false by rw [ho]; rfl)
  have H3 := Lib.hid (show cmpV (Array.toList #[60, 61]) (FloatKind.f64.format.order a b == some .eq) (FloatKind.f64.format.order a b != some .eq) (FloatKind.f64.format.order a b == some .lt) (FloatKind.f64.format.order a b == some .lt || FloatKind.f64.format.order a b == some .eq) (FloatKind.f64.format.order a b == some .gt) (FloatKind.f64.format.order a b == some .gt || FloatKind.f64.format.order a b == some .eq) = some false by rw [ho]; rfl)
  have H4 := Lib.hid (show cmpV (Array.toList #[62, 61]) (FloatKind.f64.format.order a b == some .eq) (FloatKind.f64.format.order a b != some .eq) (FloatKind.f64.format.order a b == some .lt) (FloatKind.f64.format.order a b == some .lt || FloatKind.f64.format.order a b == some .eq) (FloatKind.f64.format.order a b == some .gt) (FloatKind.f64.format.order a b == some .gt || FloatKind.f64.format.order a b == some .eq) = some false by rw [ho]; rfl)
  have H5 := Lib.hid (show cmpV (Array.toList #[33, 61]) (FloatKind.f64.format.order a b == some .eq) (FloatKind.f64.format.order a b != some .eq) (FloatKind.f64.format.order a b == some .lt) (FloatKind.f64.format.order a b == some .lt || FloatKind.f64.format.order a b == some .eq) (FloatKind.f64.format.order a b == some .gt) (FloatKind.f64.format.order a b == some .gt || FloatKind.f64.format.order a b == some .eq) = some true by rw [ho]; rfl)
  clear ho
  go_enter Try.func8, Try.ntmps8
  go_wp2_with fail
  refine (alive_any w).mono ?_
  rintro e w1 ⟨rfl, hbx⟩
  have hb := hbx
  clear hbx
  go_wp2_with fail
  have px := (lc3_new w1 (.int .i64 2) (.int .i64 0) (.int .u64 (a : Nat)) 24).later ((Below.refl (w1.alloc (.cells #[.int .i64 2, .int .i64 0, .int .u64 (a : Nat)] 24)).heap.size (w1.alloc (.cells #[.int .i64 2, .int .i64 0, .int .u64 (a : Nat)] 24))).alloc (Nat.le_refl _) (.cells #[.int .i64 2, .int .i64 0, .int .u64 (b : Nat)] 24))
  have py := (lc3_new2 w1 (.cells #[.int .i64 2, .int .i64 0, .int .u64 (a : Nat)] 24) (.int .i64 2) (.int .i64 0) (.int .u64 (b : Nat)) 24)
  replace hb := (below_alloc (below_alloc hb (.cells #[.int .i64 2, .int .i64 0, .int .u64 (a : Nat)] 24)) (.cells #[.int .i64 2, .int .i64 0, .int .u64 (b : Nat)] 24))
  go_wp2_with fail
  refine (isF #[61, 61] _ _ a b false ((w1.alloc (.cells #[.int .i64 2, .int .i64 0, .int .u64 (a : Nat)] 24)).alloc (.cells #[.int .i64 2, .int .i64 0, .int .u64 (b : Nat)] 24)) px py H0).mono ?_
  rintro e w2 ⟨rfl, hbx⟩
  replace px := px.later hbx
  replace py := py.later hbx
  replace hb := below_next hb hbx
  clear hbx
  obtain ⟨c0px, c1px, c2px, szpx⟩ := px.all
  obtain ⟨c0py, c1py, c2py, szpy⟩ := py.all
  go_wp2_with fail
  refine (isF #[60] _ _ a b false w2 px py H1).mono ?_
  rintro e w3 ⟨rfl, hbx⟩
  replace px := px.later hbx
  replace py := py.later hbx
  replace hb := below_next hb hbx
  clear hbx
  obtain ⟨c0px, c1px, c2px, szpx⟩ := px.all
  obtain ⟨c0py, c1py, c2py, szpy⟩ := py.all
  go_wp2_with fail
  refine (isF #[62] _ _ a b false w3 px py H2).mono ?_
  rintro e w4 ⟨rfl, hbx⟩
  replace px := px.later hbx
  replace py := py.later hbx
  replace hb := below_next hb hbx
  clear hbx
  obtain ⟨c0px, c1px, c2px, szpx⟩ := px.all
  obtain ⟨c0py, c1py, c2py, szpy⟩ := py.all
  go_wp2_with fail
  refine (refNaN_is a false w4 HA).mono ?_
  rintro e w' ⟨rfl, rfl⟩
  go_wp2_with fail
  refine (refNaN_is b true w4 HB).mono ?_
  rintro e w' ⟨rfl, rfl⟩
  go_wp2_with fail
  refine (isF #[60, 61] _ _ a b false w4 px py H3).mono ?_
  rintro e w5 ⟨rfl, hbx⟩
  replace px := px.later hbx
  replace py := py.later hbx
  replace hb := below_next hb hbx
  clear hbx
  obtain ⟨c0px, c1px, c2px, szpx⟩ := px.all
  obtain ⟨c0py, c1py, c2py, szpy⟩ := py.all
  go_wp2_with fail
  refine (isF #[62, 61] _ _ a b false w5 px py H4).mono ?_
  rintro e w6 ⟨rfl, hbx⟩
  replace px := px.later hbx
  replace py := py.later hbx
  replace hb := below_next hb hbx
  clear hbx
  obtain ⟨c0px, c1px, c2px, szpx⟩ := px.all
  obtain ⟨c0py, c1py, c2py, szpy⟩ := py.all
  go_wp2_with fail
  refine (isF #[33, 61] _ _ a b true w6 px py H5).mono ?_
  rintro e w7 ⟨rfl, hbx⟩
  replace px := px.later hbx
  replace py := py.later hbx
  replace hb := below_next hb hbx
  clear hbx
  obtain ⟨c0px, c1px, c2px, szpx⟩ := px.all
  obtain ⟨c0py, c1py, c2py, szpy⟩ := py.all
  go_wp2
  go_ret
  exact ⟨rfl, hb⟩
end Go.Proofs.Ytdeabmijoaepcaa
