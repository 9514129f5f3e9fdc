/-
  The walk of ValueFloats: numbers.
-/
import Derived.Test.YtdeabmijoaepcaaLawFloats
namespace Go.Proofs.Ytdeabmijoaepcaa
open Go.RowKit Go.Stk
set_option maxHeartbeats 8000000


theorem floats_eq1 (a b : Nat) (w : World) (hsame : ((a : Int) == (b : Int)) = true) (hza : (IntKind.u64.wrap ((a : Int) * 2) == 0) = false)  (ho : FloatKind.f64.format.order a b = some .eq) (HA : Hid (nanB a = false)) (HB : Hid (nanB b = false)) : Calls Try.prog 8 #[.int .u64 a, .int .u64 b] w (Ret w (.bool true)) := by
  have H0 := Lib.hid (show cmpV (Array.toList #[61, 61]) (FloatKind.f64.format.order a b == some .eq) (FloatKind.f64.format.order a b != some .eq) (FloatKind.f64.format.order a b == some .lt) (FloatKind.f64.format.order a b == some .lt || FloatKind.f64.format.order a b == some .eq) (FloatKind.f64.format.order a b == some .gt) (FloatKind.f64.format.order a b == some .gt || FloatKind.f64.format.order a b == some .eq) = some true by rw [ho]; rfl)
  have H1 := Lib.hid (show cmpV (Array.toList #[60]) (FloatKind.f64.format.order a b == some .eq) (FloatKind.f64.format.order a b != some .eq) (FloatKind.f64.format.order a b == some .lt) (FloatKind.f64.format.order a b == some .lt || FloatKind.f64.format.order a b == some .eq) (FloatKind.f64.format.order a b == some .gt) (FloatKind.f64.format.order a b == some .gt || FloatKind.f64.format.order a b == some .eq) = some false by rw [ho]; rfl)
  have H2 := Lib.hid (show cmpV (Array.toList #[62]) (FloatKind.f64.format.order a b == some .eq) (FloatKind.f64.format.order a b != some .eq) (FloatKind.f64.format.order a b == some .lt) (FloatKind.f64.format.order a b == some .lt || FloatKind.f64.format.order a b == some .eq) (FloatKind.f64.format.order a b == some .gt) (FloatKind.f64.format.order a b == some .gt || FloatKind.f64.format.order a b == some .eq) = some false by rw [ho]; rfl)
  have H3 := Lib.hid (show cmpV (Array.toList #[60, 61]) (FloatKind.f64.format.order a b == some .eq) (FloatKind.f64.format.order a b != some .eq) (FloatKind.f64.format.order a b == some .lt) (FloatKind.f64.format.order a b == some .lt || FloatKind.f64.format.order a b == some .eq) (FloatKind.f64.format.order a b == some .gt) (FloatKind.f64.format.order a b == some .gt || FloatKind.f64.format.order a b == some .eq) = some true by rw [ho]; rfl)
  have H4 := Lib.hid (show cmpV (Array.toList #[62, 61]) (FloatKind.f64.format.order a b == some .eq) (FloatKind.f64.format.order a b != some .eq) (FloatKind.f64.format.order a b == some .lt) (FloatKind.f64.format.order a b == some .lt || FloatKind.f64.format.order a b == some .eq) (FloatKind.f64.format.order a b == some .gt) (FloatKind.f64.format.order a b == some .gt || FloatKind.f64.format.order a b == some .eq) = some true by rw [ho]; rfl)
  have H5 := Lib.hid (show cmpV (Array.toList #[33, 61]) (FloatKind.f64.format.order a b == some .eq) (FloatKind.f64.format.order a b != some .eq) (FloatKind.f64.format.order a b == some .lt) (FloatKind.f64.format.order a b == some .lt || FloatKind.f64.format.order a b == some .eq) (FloatKind.f64.format.order a b == some .gt) (FloatKind.f64.format.order a b == some .gt || FloatKind.f64.format.order a b == some .eq) = some false by rw [ho]; rfl)
  clear ho
  go_enter Try.func8, Try.ntmps8
  go_wp2_with fail
  refine (alive_any w).mono ?_
  rintro e w1 ⟨rfl, hbx⟩
  have hb := hbx
  clear hbx
  go_wp2_with fail
  have px := (lc3_new w1 (.int .i64 2) (.int .i64 0) (.int .u64 (a : Nat)) 24).later ((Below.refl (w1.alloc (.cells #[.int .i64 2, .int .i64 0, .int .u64 (a : Nat)] 24)).heap.size (w1.alloc (.cells #[.int .i64 2, .int .i64 0, .int .u64 (a : Nat)] 24))).alloc (Nat.le_refl _) (.cells #[.int .i64 2, .int .i64 0, .int .u64 (b : Nat)] 24))
  have py := (lc3_new2 w1 (.cells #[.int .i64 2, .int .i64 0, .int .u64 (a : Nat)] 24) (.int .i64 2) (.int .i64 0) (.int .u64 (b : Nat)) 24)
  replace hb := (below_alloc (below_alloc hb (.cells #[.int .i64 2, .int .i64 0, .int .u64 (a : Nat)] 24)) (.cells #[.int .i64 2, .int .i64 0, .int .u64 (b : Nat)] 24))
  go_wp2_with fail
  refine (isF #[61, 61] _ _ a b true ((w1.alloc (.cells #[.int .i64 2, .int .i64 0, .int .u64 (a : Nat)] 24)).alloc (.cells #[.int .i64 2, .int .i64 0, .int .u64 (b : Nat)] 24)) px py H0).mono ?_
  rintro e w2 ⟨rfl, hbx⟩
  replace px := px.later hbx
  replace py := py.later hbx
  replace hb := below_next hb hbx
  clear hbx
  obtain ⟨c0px, c1px, c2px, szpx⟩ := px.all
  obtain ⟨c0py, c1py, c2py, szpy⟩ := py.all
  go_wp2_with fail
  refine (isF #[60] _ _ a b false w2 px py H1).mono ?_
  rintro e w3 ⟨rfl, hbx⟩
  replace px := px.later hbx
  replace py := py.later hbx
  replace hb := below_next hb hbx
  clear hbx
  obtain ⟨c0px, c1px, c2px, szpx⟩ := px.all
  obtain ⟨c0py, c1py, c2py, szpy⟩ := py.all
  go_wp2_with fail
  refine (isF #[62] _ _ a b false w3 px py H2).mono ?_
  rintro e w4 ⟨rfl, hbx⟩
  replace px := px.later hbx
  replace py := py.later hbx
  replace hb := below_next hb hbx
  clear hbx
  obtain ⟨c0px, c1px, c2px, szpx⟩ := px.all
  obtain ⟨c0py, c1py, c2py, szpy⟩ := py.all
  go_wp2_with fail
  refine (refNaN_is a false w4 HA).mono ?_
  rintro e w' ⟨rfl, rfl⟩
  go_wp2_with fail
  refine (refNaN_is b false w4 HB).mono ?_
  rintro e w' ⟨rfl, rfl⟩
  go_wp2_with fail
  go_loop [11, 13, 63] (fun n _ i => (i = .int .i64 0 ∧ n = .int .i64 0) ∨ (i = .int .i64 1 ∧ n = .int .i64 1) ∨ (i = .int .i64 2 ∧ n = .int .i64 1) ∨ (i = .int .i64 3 ∧ n = .int .i64 1)) (fun _ _ i => 3 - (intOf i).toNat)
  case atStart => exact Or.inl ⟨rfl, rfl⟩
  case round =>
  replace px := px.later ((Below.refl w4.heap.size w4).alloc (Nat.le_refl _) (.cells #[.bool true, .bool false, .bool false] 4))
  replace py := py.later ((Below.refl w4.heap.size w4).alloc (Nat.le_refl _) (.cells #[.bool true, .bool false, .bool false] 4))
  replace hb := below_alloc hb (.cells #[.bool true, .bool false, .bool false] 4)
  rcases hrel with ⟨rfl, rfl⟩ | ⟨rfl, rfl⟩ | ⟨rfl, rfl⟩ | ⟨rfl, rfl⟩
  · go_wp2_with fail
    go_round
    case rel => exact Or.inr (Or.inl ⟨rfl, rfl⟩)
    case measure => decide
  · go_wp2_with fail
    go_round
    case rel => exact Or.inr (Or.inr (Or.inl ⟨rfl, rfl⟩))
    case measure => decide
  · go_wp2_with fail
    go_round
    case rel => exact Or.inr (Or.inr (Or.inr ⟨rfl, rfl⟩))
    case measure => decide
  go_wp2_with fail
  refine (isF #[60, 61] _ _ a b true (w4.alloc (.cells #[.bool true, .bool false, .bool false] 4)) px py H3).mono ?_
  rintro e w5 ⟨rfl, hbx⟩
  replace px := px.later hbx
  replace py := py.later hbx
  replace hb := below_next hb hbx
  clear hbx
  obtain ⟨c0px, c1px, c2px, szpx⟩ := px.all
  obtain ⟨c0py, c1py, c2py, szpy⟩ := py.all
  go_wp2_with fail
  refine (isF #[62, 61] _ _ a b true w5 px py H4).mono ?_
  rintro e w6 ⟨rfl, hbx⟩
  replace px := px.later hbx
  replace py := py.later hbx
  replace hb := below_next hb hbx
  clear hbx
  obtain ⟨c0px, c1px, c2px, szpx⟩ := px.all
  obtain ⟨c0py, c1py, c2py, szpy⟩ := py.all
  go_wp2_with fail
  refine (isF #[33, 61] _ _ a b false w6 px py H5).mono ?_
  rintro e w7 ⟨rfl, hbx⟩
  replace px := px.later hbx
  replace py := py.later hbx
  replace hb := below_next hb hbx
  clear hbx
  obtain ⟨c0px, c1px, c2px, szpx⟩ := px.all
  obtain ⟨c0py, c1py, c2py, szpy⟩ := py.all
  go_wp2
  go_ret
  exact ⟨rfl, hb⟩

theorem floats_eq2 (a b : Nat) (w : World) (hsame : ((a : Int) == (b : Int)) = true) (hza : (IntKind.u64.wrap ((a : Int) * 2) == 0) = true) (hzb : (IntKind.u64.wrap ((b : Int) * 2) == 0) = true)  (ho : FloatKind.f64.format.order a b = some .eq) (HA : Hid (nanB a = false)) (HB : Hid (nanB b = false)) : Calls Try.prog 8 #[.int .u64 a, .int .u64 b] w (Ret w (.bool true)) := by
  have H0 := Lib.hid (show cmpV (Array.toList #[61, 61]) (FloatKind.f64.format.order a b == some .eq) (FloatKind.f64.format.order a b != some .eq) (FloatKind.f64.format.order a b == some .lt) (FloatKind.f64.format.order a b == some .lt || FloatKind.f64.format.order a b == some .eq) (FloatKind.f64.format.order a b == some .gt) (FloatKind.f64.format.order a b == some .gt || FloatKind.f64.format.order a b == some .eq) = some true by rw [ho]; rfl)
  have H1 := Lib.hid (show cmpV (Array.toList #[60]) (FloatKind.f64.format.order a b == some .eq) (FloatKind.f64.format.order a b != some .eq) (FloatKind.f64.format.order a b == some .lt) (FloatKind.f64.format.order a b == some .lt || FloatKind.f64.format.order a b == some .eq) (FloatKind.f64.format.order a b == some .gt) (FloatKind.f64.format.order a b == some .gt || FloatKind.f64.format.order a b == some .eq) = some false by rw [ho]; rfl)
  have H2 := Lib.hid (show cmpV (Array.toList #[62]) (FloatKind.f64.format.order a b == some .eq) (FloatKind.f64.format.order a b != some .eq) (FloatKind.f64.format.order a b == some .lt) (FloatKind.f64.format.order a b == some .lt || FloatKind.f64.format.order a b == some .eq) (FloatKind.f64.format.order a b == some .gt) (FloatKind.f64.format.order a b == some .gt || FloatKind.f64.format.order a b == some .eq) = some false by rw [ho]; rfl)
  have H3 := Lib.hid (show cmpV (Array.toList #[60, 61]) (FloatKind.f64.format.order a b == some .eq) (FloatKind.f64.format.order a b != some .eq) (FloatKind.f64.format.order a b == some .lt) (FloatKind.f64.format.order a b == some .lt || FloatKind.f64.format.order a b == some .eq) (FloatKind.f64.format.order a b == some .gt) (FloatKind.f64.format.order a b == some .gt || FloatKind.f64.format.order a b == some .eq) = some true by rw [ho]; rfl)
  have H4 := Lib.hid (show cmpV (Array.toList #[62, 61]) (FloatKind.f64.format.order a b == some .eq) (FloatKind.f64.format.order a b != some .eq) (FloatKind.f64.format.order a b == some .lt) (FloatKind.f64.format.order a b == some .lt || FloatKind.f64.format.order a b == some .eq) (FloatKind.f64.format.order a b == some .gt) (FloatKind.f64.format.order a b == some .gt || FloatKind.f64.format.order a b == some .eq) = some true by rw [ho]; rfl)
  have H5 := Lib.hid (show cmpV (Array.toList #[33, 61]) (FloatKind.f64.format.order a b == some .eq) (FloatKind.f64.format.order a b != some .eq) (FloatKind.f64.format.order a b == some .lt) (FloatKind.f64.format.order a b == some .lt || FloatKind.f64.format.order a b == some .eq) (FloatKind.f64.format.order a b == some .gt) (FloatKind.f64.format.order a b == some .gt || FloatKind.f64.format.order a b == some .eq) = some false by rw [ho]; rfl)
  clear ho
  go_enter Try.func8, Try.ntmps8
  go_wp2_with fail
  refine (alive_any w).mono ?_
  rintro e w1 ⟨rfl, hbx⟩
  have hb := hbx
  clear hbx
  go_wp2_with fail
  have px := (lc3_new w1 (.int .i64 2) (.int .i64 0) (.int .u64 (a : Nat)) 24).later ((Below.refl (w1.alloc (.cells #[.int .i64 2, .int .i64 0, .int .u64 (a : Nat)] 24)).heap.size (w1.alloc (.cells #[.int .i64 2, .int .i64 0, .int .u64 (a : Nat)] 24))).alloc (Nat.le_refl _) (.cells #[.int .i64 2, .int .i64 0, .int .u64 (b : Nat)] 24))
  have py := (lc3_new2 w1 (.cells #[.int .i64 2, .int .i64 0, .int .u64 (a : Nat)] 24) (.int .i64 2) (.int .i64 0) (.int .u64 (b : Nat)) 24)
  replace hb := (below_alloc (below_alloc hb (.cells #[.int .i64 2, .int .i64 0, .int .u64 (a : Nat)] 24)) (.cells #[.int .i64 2, .int .i64 0, .int .u64 (b : Nat)] 24))
  go_wp2_with fail
  refine (isF #[61, 61] _ _ a b true ((w1.alloc (.cells #[.int .i64 2, .int .i64 0, .int .u64 (a : Nat)] 24)).alloc (.cells #[.int .i64 2, .int .i64 0, .int .u64 (b : Nat)] 24)) px py H0).mono ?_
  rintro e w2 ⟨rfl, hbx⟩
  replace px := px.later hbx
  replace py := py.later hbx
  replace hb := below_next hb hbx
  clear hbx
  obtain ⟨c0px, c1px, c2px, szpx⟩ := px.all
  obtain ⟨c0py, c1py, c2py, szpy⟩ := py.all
  go_wp2_with fail
  refine (isF #[60] _ _ a b false w2 px py H1).mono ?_
  rintro e w3 ⟨rfl, hbx⟩
  replace px := px.later hbx
  replace py := py.later hbx
  replace hb := below_next hb hbx
  clear hbx
  obtain ⟨c0px, c1px, c2px, szpx⟩ := px.all
  obtain ⟨c0py, c1py, c2py, szpy⟩ := py.all
  go_wp2_with fail
  refine (isF #[62] _ _ a b false w3 px py H2).mono ?_
  rintro e w4 ⟨rfl, hbx⟩
  replace px := px.later hbx
  replace py := py.later hbx
  replace hb := below_next hb hbx
  clear hbx
  obtain ⟨c0px, c1px, c2px, szpx⟩ := px.all
  obtain ⟨c0py, c1py, c2py, szpy⟩ := py.all
  go_wp2_with fail
  refine (refNaN_is a false w4 HA).mono ?_
  rintro e w' ⟨rfl, rfl⟩
  go_wp2_with fail
  refine (refNaN_is b false w4 HB).mono ?_
  rintro e w' ⟨rfl, rfl⟩
  go_wp2_with fail
  go_loop [11, 13, 63] (fun n _ i => (i = .int .i64 0 ∧ n = .int .i64 0) ∨ (i = .int .i64 1 ∧ n = .int .i64 1) ∨ (i = .int .i64 2 ∧ n = .int .i64 1) ∨ (i = .int .i64 3 ∧ n = .int .i64 1)) (fun _ _ i => 3 - (intOf i).toNat)
  case atStart => exact Or.inl ⟨rfl, rfl⟩
  case round =>
  replace px := px.later ((Below.refl w4.heap.size w4).alloc (Nat.le_refl _) (.cells #[.bool true, .bool false, .bool false] 4))
  replace py := py.later ((Below.refl w4.heap.size w4).alloc (Nat.le_refl _) (.cells #[.bool true, .bool false, .bool false] 4))
  replace hb := below_alloc hb (.cells #[.bool true, .bool false, .bool false] 4)
  rcases hrel with ⟨rfl, rfl⟩ | ⟨rfl, rfl⟩ | ⟨rfl, rfl⟩ | ⟨rfl, rfl⟩
  · go_wp2_with fail
    go_round
    case rel => exact Or.inr (Or.inl ⟨rfl, rfl⟩)
    case measure => decide
  · go_wp2_with fail
    go_round
    case rel => exact Or.inr (Or.inr (Or.inl ⟨rfl, rfl⟩))
    case measure => decide
  · go_wp2_with fail
    go_round
    case rel => exact Or.inr (Or.inr (Or.inr ⟨rfl, rfl⟩))
    case measure => decide
  go_wp2_with fail
  refine (isF #[60, 61] _ _ a b true (w4.alloc (.cells #[.bool true, .bool false, .bool false] 4)) px py H3).mono ?_
  rintro e w5 ⟨rfl, hbx⟩
  replace px := px.later hbx
  replace py := py.later hbx
  replace hb := below_next hb hbx
  clear hbx
  obtain ⟨c0px, c1px, c2px, szpx⟩ := px.all
  obtain ⟨c0py, c1py, c2py, szpy⟩ := py.all
  go_wp2_with fail
  refine (isF #[62, 61] _ _ a b true w5 px py H4).mono ?_
  rintro e w6 ⟨rfl, hbx⟩
  replace px := px.later hbx
  replace py := py.later hbx
  replace hb := below_next hb hbx
  clear hbx
  obtain ⟨c0px, c1px, c2px, szpx⟩ := px.all
  obtain ⟨c0py, c1py, c2py, szpy⟩ := py.all
  go_wp2_with fail
  refine (isF #[33, 61] _ _ a b false w6 px py H5).mono ?_
  rintro e w7 ⟨rfl, hbx⟩
  replace px := px.later hbx
  replace py := py.later hbx
  replace hb := below_next hb hbx
  clear hbx
  obtain ⟨c0px, c1px, c2px, szpx⟩ := px.all
  obtain ⟨c0py, c1py, c2py, szpy⟩ := py.all
  go_wp2
  go_ret
  exact ⟨rfl, hb⟩

theorem floats_eq3 (a b : Nat) (w : World) (hsame : ((a : Int) == (b : Int)) = false) (hza : (IntKind.u64.wrap ((a : Int) * 2) == 0) = true) (hzb : (IntKind.u64.wrap ((b : Int) * 2) == 0) = true)  (ho : FloatKind.f64.format.order a b = some .eq) (HA : Hid (nanB a = false)) (HB : Hid (nanB b = false)) : Calls Try.prog 8 #[.int .u64 a, .int .u64 b] w (Ret w (.bool true)) := by
  have H0 := Lib.hid (show cmpV (Array.toList #[61, 61]) (FloatKind.f64.format.order a b == some .eq) (FloatKind.f64.format.order a b != some .eq) (FloatKind.f64.format.order a b == some .lt) (FloatKind.f64.format.order a b == some .lt || FloatKind.f64.format.order a b == some .eq) (FloatKind.f64.format.order a b == some .gt) (FloatKind.f64.format.order a b == some .gt || FloatKind.f64.format.order a b == some .eq) = some true by rw [ho]; rfl)
  have H1 := Lib.hid (show cmpV (Array.toList #[60]) (FloatKind.f64.format.order a b == some .eq) (FloatKind.f64.format.order a b != some .eq) (FloatKind.f64.format.order a b == some .lt) (FloatKind.f64.format.order a b == some .lt || FloatKind.f64.format.order a b == some .eq) (FloatKind.f64.format.order a b == some .gt) (FloatKind.f64.format.order a b == some .gt || FloatKind.f64.format.order a b == some .eq) = some false by rw [ho]; rfl)
  have H2 := Lib.hid (show cmpV (Array.toList #[62]) (FloatKind.f64.format.order a b == some .eq) (FloatKind.f64.format.order a b != some .eq) (FloatKind.f64.format.order a b == some .lt) (FloatKind.f64.format.order a b == some .lt || FloatKind.f64.format.order a b == some .eq) (FloatKind.f64.format.order a b == some .gt) (FloatKind.f64.format.order a b == some .gt || FloatKind.f64.format.order a b == some .eq) = some false by rw [ho]; rfl)
  have H3 := Lib.hid (show cmpV (Array.toList #[60, 61]) (FloatKind.f64.format.order a b == some .eq) (FloatKind.f64.format.order a b != some .eq) (FloatKind.f64.format.order a b == some .lt) (FloatKind.f64.format.order a b == some .lt || FloatKind.f64.format.order a b == some .eq) (FloatKind.f64.format.order a b == some .gt) (FloatKind.f64.format.order a b == some .gt || FloatKind.f64.format.order a b == some .eq) = some true by rw [ho]; rfl)
  have H4 := Lib.hid (show cmpV (Array.toList #[62, 61]) (FloatKind.f64.format.order a b == some .eq) (FloatKind.f64.format.order a b != some .eq) (FloatKind.f64.format.order a b == some .lt) (FloatKind.f64.format.order a b == some .lt || FloatKind.f64.format.order a b == some .eq) (FloatKind.f64.format.order a b == some .gt) (FloatKind.f64.format.order a b == some .gt || FloatKind.f64.format.order a b == some .eq) = some true by rw [ho]; rfl)
  have H5 := Lib.hid (show cmpV (Array.toList #[33, 61]) (FloatKind.f64.format.order a b == some .eq) (FloatKind.f64.format.order a b != some .eq) (FloatKind.f64.format.order a b == some .lt) (FloatKind.f64.format.order a b == some .lt || FloatKind.f64.format.order a b == some .eq) (FloatKind.f64.format.order a b == some .gt) (FloatKind.f64.format.order a b == some .gt || FloatKind.f64.format.order a b == some .eq) = some false by rw [ho]; rfl)
  clear ho
  go_enter Try.func8, Try.ntmps8
  go_wp2_with fail
  refine (alive_any w).mono ?_
  rintro e w1 ⟨rfl, hbx⟩
  have hb := hbx
  clear hbx
  go_wp2_with fail
  have px := (lc3_new w1 (.int .i64 2) (.int .i64 0) (.int .u64 (a : Nat)) 24).later ((Below.refl (w1.alloc (.cells #[.int .i64 2, .int .i64 0, .int .u64 (a : Nat)] 24)).heap.size (w1.alloc (.cells #[.int .i64 2, .int .i64 0, .int .u64 (a : Nat)] 24))).alloc (Nat.le_refl _) (.cells #[.int .i64 2, .int .i64 0, .int .u64 (b : Nat)] 24))
  have py := (lc3_new2 w1 (.cells #[.int .i64 2, .int .i64 0, .int .u64 (a : Nat)] 24) (.int .i64 2) (.int .i64 0) (.int .u64 (b : Nat)) 24)
  replace hb := (below_alloc (below_alloc hb (.cells #[.int .i64 2, .int .i64 0, .int .u64 (a : Nat)] 24)) (.cells #[.int .i64 2, .int .i64 0, .int .u64 (b : Nat)] 24))
  go_wp2_with fail
  refine (isF #[61, 61] _ _ a b true ((w1.alloc (.cells #[.int .i64 2, .int .i64 0, .int .u64 (a : Nat)] 24)).alloc (.cells #[.int .i64 2, .int .i64 0, .int .u64 (b : Nat)] 24)) px py H0).mono ?_
  rintro e w2 ⟨rfl, hbx⟩
  replace px := px.later hbx
  replace py := py.later hbx
  replace hb := below_next hb hbx
  clear hbx
  obtain ⟨c0px, c1px, c2px, szpx⟩ := px.all
  obtain ⟨c0py, c1py, c2py, szpy⟩ := py.all
  go_wp2_with fail
  refine (isF #[60] _ _ a b false w2 px py H1).mono ?_
  rintro e w3 ⟨rfl, hbx⟩
  replace px := px.later hbx
  replace py := py.later hbx
  replace hb := below_next hb hbx
  clear hbx
  obtain ⟨c0px, c1px, c2px, szpx⟩ := px.all
  obtain ⟨c0py, c1py, c2py, szpy⟩ := py.all
  go_wp2_with fail
  refine (isF #[62] _ _ a b false w3 px py H2).mono ?_
  rintro e w4 ⟨rfl, hbx⟩
  replace px := px.later hbx
  replace py := py.later hbx
  replace hb := below_next hb hbx
  clear hbx
  obtain ⟨c0px, c1px, c2px, szpx⟩ := px.all
  obtain ⟨c0py, c1py, c2py, szpy⟩ := py.all
  go_wp2_with fail
  refine (refNaN_is a false w4 HA).mono ?_
  rintro e w' ⟨rfl, rfl⟩
  go_wp2_with fail
  refine (refNaN_is b false w4 HB).mono ?_
  rintro e w' ⟨rfl, rfl⟩
  go_wp2_with fail
  go_loop [11, 13, 63] (fun n _ i => (i = .int .i64 0 ∧ n = .int .i64 0) ∨ (i = .int .i64 1 ∧ n = .int .i64 1) ∨ (i = .int .i64 2 ∧ n = .int .i64 1) ∨ (i = .int .i64 3 ∧ n = .int .i64 1)) (fun _ _ i => 3 - (intOf i).toNat)
  case atStart => exact Or.inl ⟨rfl, rfl⟩
  case round =>
  replace px := px.later ((Below.refl w4.heap.size w4).alloc (Nat.le_refl _) (.cells #[.bool true, .bool false, .bool false] 4))
  replace py := py.later ((Below.refl w4.heap.size w4).alloc (Nat.le_refl _) (.cells #[.bool true, .bool false, .bool false] 4))
  replace hb := below_alloc hb (.cells #[.bool true, .bool false, .bool false] 4)
  rcases hrel with ⟨rfl, rfl⟩ | ⟨rfl, rfl⟩ | ⟨rfl, rfl⟩ | ⟨rfl, rfl⟩
  · go_wp2_with fail
    go_round
    case rel => exact Or.inr (Or.inl ⟨rfl, rfl⟩)
    case measure => decide
  · go_wp2_with fail
    go_round
    case rel => exact Or.inr (Or.inr (Or.inl ⟨rfl, rfl⟩))
    case measure => decide
  · go_wp2_with fail
    go_round
    case rel => exact Or.inr (Or.inr (Or.inr ⟨rfl, rfl⟩))
    case measure => decide
  go_wp2_with fail
  refine (isF #[60, 61] _ _ a b true (w4.alloc (.cells #[.bool true, .bool false, .bool false] 4)) px py H3).mono ?_
  rintro e w5 ⟨rfl, hbx⟩
  replace px := px.later hbx
  replace py := py.later hbx
  replace hb := below_next hb hbx
  clear hbx
  obtain ⟨c0px, c1px, c2px, szpx⟩ := px.all
  obtain ⟨c0py, c1py, c2py, szpy⟩ := py.all
  go_wp2_with fail
  refine (isF #[62, 61] _ _ a b true w5 px py H4).mono ?_
  rintro e w6 ⟨rfl, hbx⟩
  replace px := px.later hbx
  replace py := py.later hbx
  replace hb := below_next hb hbx
  clear hbx
  obtain ⟨c0px, c1px, c2px, szpx⟩ := px.all
  obtain ⟨c0py, c1py, c2py, szpy⟩ := py.all
  go_wp2_with fail
  refine (isF #[33, 61] _ _ a b false w6 px py H5).mono ?_
  rintro e w7 ⟨rfl, hbx⟩
  replace px := px.later hbx
  replace py := py.later hbx
  replace hb := below_next hb hbx
  clear hbx
  obtain ⟨c0px, c1px, c2px, szpx⟩ := px.all
  obtain ⟨c0py, c1py, c2py, szpy⟩ := py.all
  go_wp2
  go_ret
  exact ⟨rfl, hb⟩
end Go.Proofs.Ytdeabmijoaepcaa
