/-
  The walk of ValueLess.
-/
import Derived.Test.YtdeabmijoaepcaaInts
namespace Go.Proofs.Ytdeabmijoaepcaa
open Go.RowKit Go.Stk

set_option maxHeartbeats 2000000
theorem binL (l : Array UInt8) (x y : Int) (w : World) (z : Bool) (h : Hid (cmpV l.toList (x == y) (x != y) (decide (x < y)) (decide (x ≤ y)) (decide (y < x)) (decide (y ≤ x)) = some z)) : Calls Try.prog 15 #[.string ⟨l⟩, .agg #[.int .i64 1, .int .i64 x, .int .u64 0], .agg #[.int .i64 1, .int .i64 y, .int .u64 0]] w (Ret w (.tuple #[.agg #[.int .i64 3, .int .i64 (b2i z), .int .u64 0], .int .i64 0])) := binI_cmp ⟨l⟩ x y w z (by rw [bl]; exact h)
theorem isL (l : Array UInt8) (x y : Int) (z : Bool) (w : World) (h : Hid (cmpV l.toList (x == y) (x != y) (decide (x < y)) (decide (x ≤ y)) (decide (y < x)) (decide (y ≤ x)) = some z)) : Calls Try.prog 23 #[.string ⟨l⟩, .int .i64 x, .int .i64 y] w (Ret w (.bool z)) := by
  go_enter Try.func23, Try.ntmps23
  go_wp2_with fail
  refine (valInt_any x w).mono ?_
  rintro e w1 ⟨rfl, hbx⟩
  have hb := hbx
  clear hbx
  go_wp2_with fail
  refine (valInt_any y w1).mono ?_
  rintro e w2 ⟨rfl, hbx⟩
  replace hb := below_next hb hbx
  clear hbx
  go_wp2_with fail
  refine (binL l x y w2 z h).mono ?_
  rintro e w3 ⟨rfl, hbx⟩
  replace hb := below_next hb hbx
  clear hbx
  go_wp2_with fail
  refine (valTrue_any 3 (b2i z) 0 (w3.alloc (.cells #[.int .i64 3, .int .i64 (b2i z), .int .u64 0] 24))).mono ?_
  rintro e w4 ⟨rfl, hbx⟩
  have pr := (lc3_new w3 (.int .i64 3) (.int .i64 (b2i z)) (.int .u64 0) 24)
  replace pr := pr.later hbx
  replace hbx := below_next (below_alloc (Below.refl w3.heap.size w3) (.cells #[.int .i64 3, .int .i64 (b2i z), .int .u64 0] 24)) hbx
  replace hb := below_next hb hbx
  clear hbx
  obtain ⟨c0pr, c1pr, c2pr, szpr⟩ := pr.all
  have e : ((3 : Int) == 3 && b2i z == 1) = z := by cases z <;> rfl
  rw [e]
  go_wp2
  go_ret
  exact ⟨rfl, hb⟩

theorem less_abc (a b c : Int) (w : World) (h1 : a < b) (h2 : b < c) : Calls Try.prog 10 #[.int .i64 a, .int .i64 b, .int .i64 c] w (Ret w (.bool true)) := by
  have HH0 := Lib.hid (show cmpV (Array.toList #[60]) (a == b) (a != b) (decide (a < b)) (decide (a ≤ b)) (decide (b < a)) (decide (b ≤ a)) = some true by simp [cmpV]; try omega)
  have HH1 := Lib.hid (show cmpV (Array.toList #[62]) (b == a) (b != a) (decide (b < a)) (decide (b ≤ a)) (decide (a < b)) (decide (a ≤ b)) = some true by simp [cmpV]; try omega)
  have HH2 := Lib.hid (show cmpV (Array.toList #[60, 61]) (a == b) (a != b) (decide (a < b)) (decide (a ≤ b)) (decide (b < a)) (decide (b ≤ a)) = some true by simp [cmpV]; try omega)
  have HH3 := Lib.hid (show cmpV (Array.toList #[62]) (a == b) (a != b) (decide (a < b)) (decide (a ≤ b)) (decide (b < a)) (decide (b ≤ a)) = some false by simp [cmpV]; try omega)
  have HH4 := Lib.hid (show cmpV (Array.toList #[60]) (a == b) (a != b) (decide (a < b)) (decide (a ≤ b)) (decide (b < a)) (decide (b ≤ a)) = some true by simp [cmpV]; try omega)
  have HH5 := Lib.hid (show cmpV (Array.toList #[60]) (b == c) (b != c) (decide (b < c)) (decide (b ≤ c)) (decide (c < b)) (decide (c ≤ b)) = some true by simp [cmpV]; try omega)
  have HH6 := Lib.hid (show cmpV (Array.toList #[60]) (a == c) (a != c) (decide (a < c)) (decide (a ≤ c)) (decide (c < a)) (decide (c ≤ a)) = some true by simp [cmpV]; try omega)
  have HH7 := Lib.hid (show cmpV (Array.toList #[61, 61]) (a == b) (a != b) (decide (a < b)) (decide (a ≤ b)) (decide (b < a)) (decide (b ≤ a)) = some false by simp [cmpV]; try omega)
  have HH8 := Lib.hid (show cmpV (Array.toList #[60, 61]) (a == b) (a != b) (decide (a < b)) (decide (a ≤ b)) (decide (b < a)) (decide (b ≤ a)) = some true by simp [cmpV]; try omega)
  have HH9 := Lib.hid (show cmpV (Array.toList #[60, 61]) (b == a) (b != a) (decide (b < a)) (decide (b ≤ a)) (decide (a < b)) (decide (a ≤ b)) = some false by simp [cmpV]; try omega)
  have HH10 := Lib.hid (show cmpV (Array.toList #[61, 61]) (a == a) (a != a) (decide (a < a)) (decide (a ≤ a)) (decide (a < a)) (decide (a ≤ a)) = some true by simp [cmpV]; try omega)
  have HH11 := Lib.hid (show cmpV (Array.toList #[33, 61]) (b == b) (b != b) (decide (b < b)) (decide (b ≤ b)) (decide (b < b)) (decide (b ≤ b)) = some false by simp [cmpV]; try omega)
  clear h1 h2
  go_enter Try.func10, Try.ntmps10
  go_wp2_with fail
  refine (alive_any w).mono ?_
  rintro e w1 ⟨rfl, hbx⟩
  have hb := hbx
  clear hbx
  go_wp2_with fail
  refine (isL #[60] a b true w1 HH0).mono ?_
  rintro e w2 ⟨rfl, hbx⟩
  replace hb := below_next hb hbx
  clear hbx
  go_wp2_with fail
  refine (isL #[62] b a true w2 HH1).mono ?_
  rintro e w3 ⟨rfl, hbx⟩
  replace hb := below_next hb hbx
  clear hbx
  go_wp2_with fail
  refine (isL #[60, 61] a b true w3 HH2).mono ?_
  rintro e w4 ⟨rfl, hbx⟩
  replace hb := below_next hb hbx
  clear hbx
  go_wp2_with fail
  refine (isL #[62] a b false w4 HH3).mono ?_
  rintro e w5 ⟨rfl, hbx⟩
  replace hb := below_next hb hbx
  clear hbx
  go_wp2_with fail
  refine (isL #[60] a b true w5 HH4).mono ?_
  rintro e w6 ⟨rfl, hbx⟩
  replace hb := below_next hb hbx
  clear hbx
  go_wp2_with fail
  refine (isL #[60] b c true w6 HH5).mono ?_
  rintro e w7 ⟨rfl, hbx⟩
  replace hb := below_next hb hbx
  clear hbx
  go_wp2_with fail
  refine (isL #[60] a c true w7 HH6).mono ?_
  rintro e w8 ⟨rfl, hbx⟩
  replace hb := below_next hb hbx
  clear hbx
  go_wp2_with fail
  refine (isL #[61, 61] a b false w8 HH7).mono ?_
  rintro e w9 ⟨rfl, hbx⟩
  replace hb := below_next hb hbx
  clear hbx
  go_wp2_with fail
  refine (isL #[60, 61] a b true w9 HH8).mono ?_
  rintro e w10 ⟨rfl, hbx⟩
  replace hb := below_next hb hbx
  clear hbx
  go_wp2_with fail
  refine (isL #[60, 61] b a false w10 HH9).mono ?_
  rintro e w11 ⟨rfl, hbx⟩
  replace hb := below_next hb hbx
  clear hbx
  go_wp2_with fail
  refine (isL #[61, 61] a a true w11 HH10).mono ?_
  rintro e w12 ⟨rfl, hbx⟩
  replace hb := below_next hb hbx
  clear hbx
  go_wp2_with fail
  refine (isL #[33, 61] b b false w12 HH11).mono ?_
  rintro e w13 ⟨rfl, hbx⟩
  replace hb := below_next hb hbx
  clear hbx
  go_wp2
  go_ret
  exact ⟨rfl, hb⟩

theorem less_ab (a b c : Int) (w : World) (h1 : a < b) (h2 : ¬ b < c) : Calls Try.prog 10 #[.int .i64 a, .int .i64 b, .int .i64 c] w (Ret w (.bool true)) := by
  have HH0 := Lib.hid (show cmpV (Array.toList #[60]) (a == b) (a != b) (decide (a < b)) (decide (a ≤ b)) (decide (b < a)) (decide (b ≤ a)) = some true by simp [cmpV]; try omega)
  have HH1 := Lib.hid (show cmpV (Array.toList #[62]) (b == a) (b != a) (decide (b < a)) (decide (b ≤ a)) (decide (a < b)) (decide (a ≤ b)) = some true by simp [cmpV]; try omega)
  have HH2 := Lib.hid (show cmpV (Array.toList #[60, 61]) (a == b) (a != b) (decide (a < b)) (decide (a ≤ b)) (decide (b < a)) (decide (b ≤ a)) = some true by simp [cmpV]; try omega)
  have HH3 := Lib.hid (show cmpV (Array.toList #[62]) (a == b) (a != b) (decide (a < b)) (decide (a ≤ b)) (decide (b < a)) (decide (b ≤ a)) = some false by simp [cmpV]; try omega)
  have HH4 := Lib.hid (show cmpV (Array.toList #[60]) (a == b) (a != b) (decide (a < b)) (decide (a ≤ b)) (decide (b < a)) (decide (b ≤ a)) = some true by simp [cmpV]; try omega)
  have HH5 := Lib.hid (show cmpV (Array.toList #[60]) (b == c) (b != c) (decide (b < c)) (decide (b ≤ c)) (decide (c < b)) (decide (c ≤ b)) = some false by simp [cmpV]; try omega)
  have HH6 := Lib.hid (show cmpV (Array.toList #[61, 61]) (a == b) (a != b) (decide (a < b)) (decide (a ≤ b)) (decide (b < a)) (decide (b ≤ a)) = some false by simp [cmpV]; try omega)
  have HH7 := Lib.hid (show cmpV (Array.toList #[60, 61]) (a == b) (a != b) (decide (a < b)) (decide (a ≤ b)) (decide (b < a)) (decide (b ≤ a)) = some true by simp [cmpV]; try omega)
  have HH8 := Lib.hid (show cmpV (Array.toList #[60, 61]) (b == a) (b != a) (decide (b < a)) (decide (b ≤ a)) (decide (a < b)) (decide (a ≤ b)) = some false by simp [cmpV]; try omega)
  have HH9 := Lib.hid (show cmpV (Array.toList #[61, 61]) (a == a) (a != a) (decide (a < a)) (decide (a ≤ a)) (decide (a < a)) (decide (a ≤ a)) = some true by simp [cmpV]; try omega)
  have HH10 := Lib.hid (show cmpV (Array.toList #[33, 61]) (b == b) (b != b) (decide (b < b)) (decide (b ≤ b)) (decide (b < b)) (decide (b ≤ b)) = some false by simp [cmpV]; try omega)
  clear h1 h2
  go_enter Try.func10, Try.ntmps10
  go_wp2_with fail
  refine (alive_any w).mono ?_
  rintro e w1 ⟨rfl, hbx⟩
  have hb := hbx
  clear hbx
  go_wp2_with fail
  refine (isL #[60] a b true w1 HH0).mono ?_
  rintro e w2 ⟨rfl, hbx⟩
  replace hb := below_next hb hbx
  clear hbx
  go_wp2_with fail
  refine (isL #[62] b a true w2 HH1).mono ?_
  rintro e w3 ⟨rfl, hbx⟩
  replace hb := below_next hb hbx
  clear hbx
  go_wp2_with fail
  refine (isL #[60, 61] a b true w3 HH2).mono ?_
  rintro e w4 ⟨rfl, hbx⟩
  replace hb := below_next hb hbx
  clear hbx
  go_wp2_with fail
  refine (isL #[62] a b false w4 HH3).mono ?_
  rintro e w5 ⟨rfl, hbx⟩
  replace hb := below_next hb hbx
  clear hbx
  go_wp2_with fail
  refine (isL #[60] a b true w5 HH4).mono ?_
  rintro e w6 ⟨rfl, hbx⟩
  replace hb := below_next hb hbx
  clear hbx
  go_wp2_with fail
  refine (isL #[60] b c false w6 HH5).mono ?_
  rintro e w7 ⟨rfl, hbx⟩
  replace hb := below_next hb hbx
  clear hbx
  go_wp2_with fail
  refine (isL #[61, 61] a b false w7 HH6).mono ?_
  rintro e w8 ⟨rfl, hbx⟩
  replace hb := below_next hb hbx
  clear hbx
  go_wp2_with fail
  refine (isL #[60, 61] a b true w8 HH7).mono ?_
  rintro e w9 ⟨rfl, hbx⟩
  replace hb := below_next hb hbx
  clear hbx
  go_wp2_with fail
  refine (isL #[60, 61] b a false w9 HH8).mono ?_
  rintro e w10 ⟨rfl, hbx⟩
  replace hb := below_next hb hbx
  clear hbx
  go_wp2_with fail
  refine (isL #[61, 61] a a true w10 HH9).mono ?_
  rintro e w11 ⟨rfl, hbx⟩
  replace hb := below_next hb hbx
  clear hbx
  go_wp2_with fail
  refine (isL #[33, 61] b b false w11 HH10).mono ?_
  rintro e w12 ⟨rfl, hbx⟩
  replace hb := below_next hb hbx
  clear hbx
  go_wp2
  go_ret
  exact ⟨rfl, hb⟩

theorem less_eq (a b c : Int) (w : World) (h1 : a = b) : Calls Try.prog 10 #[.int .i64 a, .int .i64 b, .int .i64 c] w (Ret w (.bool true)) := by
  have HH0 := Lib.hid (show cmpV (Array.toList #[60]) (a == b) (a != b) (decide (a < b)) (decide (a ≤ b)) (decide (b < a)) (decide (b ≤ a)) = some false by simp [cmpV]; try omega)
  have HH1 := Lib.hid (show cmpV (Array.toList #[62]) (b == a) (b != a) (decide (b < a)) (decide (b ≤ a)) (decide (a < b)) (decide (a ≤ b)) = some false by simp [cmpV]; try omega)
  have HH2 := Lib.hid (show cmpV (Array.toList #[60, 61]) (a == b) (a != b) (decide (a < b)) (decide (a ≤ b)) (decide (b < a)) (decide (b ≤ a)) = some true by simp [cmpV]; try omega)
  have HH3 := Lib.hid (show cmpV (Array.toList #[62]) (a == b) (a != b) (decide (a < b)) (decide (a ≤ b)) (decide (b < a)) (decide (b ≤ a)) = some false by simp [cmpV]; try omega)
  have HH4 := Lib.hid (show cmpV (Array.toList #[60]) (a == b) (a != b) (decide (a < b)) (decide (a ≤ b)) (decide (b < a)) (decide (b ≤ a)) = some false by simp [cmpV]; try omega)
  have HH5 := Lib.hid (show cmpV (Array.toList #[61, 61]) (a == b) (a != b) (decide (a < b)) (decide (a ≤ b)) (decide (b < a)) (decide (b ≤ a)) = some true by simp [cmpV]; try omega)
  have HH6 := Lib.hid (show cmpV (Array.toList #[60, 61]) (a == b) (a != b) (decide (a < b)) (decide (a ≤ b)) (decide (b < a)) (decide (b ≤ a)) = some true by simp [cmpV]; try omega)
  have HH7 := Lib.hid (show cmpV (Array.toList #[60, 61]) (b == a) (b != a) (decide (b < a)) (decide (b ≤ a)) (decide (a < b)) (decide (a ≤ b)) = some true by simp [cmpV]; try omega)
  have HH8 := Lib.hid (show cmpV (Array.toList #[61, 61]) (a == a) (a != a) (decide (a < a)) (decide (a ≤ a)) (decide (a < a)) (decide (a ≤ a)) = some true by simp [cmpV]; try omega)
  have HH9 := Lib.hid (show cmpV (Array.toList #[33, 61]) (b == b) (b != b) (decide (b < b)) (decide (b ≤ b)) (decide (b < b)) (decide (b ≤ b)) = some false by simp [cmpV]; try omega)
  clear h1
  go_enter Try.func10, Try.ntmps10
  go_wp2_with fail
  refine (alive_any w).mono ?_
  rintro e w1 ⟨rfl, hbx⟩
  have hb := hbx
  clear hbx
  go_wp2_with fail
  refine (isL #[60] a b false w1 HH0).mono ?_
  rintro e w2 ⟨rfl, hbx⟩
  replace hb := below_next hb hbx
  clear hbx
  go_wp2_with fail
  refine (isL #[62] b a false w2 HH1).mono ?_
  rintro e w3 ⟨rfl, hbx⟩
  replace hb := below_next hb hbx
  clear hbx
  go_wp2_with fail
  refine (isL #[60, 61] a b true w3 HH2).mono ?_
  rintro e w4 ⟨rfl, hbx⟩
  replace hb := below_next hb hbx
  clear hbx
  go_wp2_with fail
  refine (isL #[62] a b false w4 HH3).mono ?_
  rintro e w5 ⟨rfl, hbx⟩
  replace hb := below_next hb hbx
  clear hbx
  go_wp2_with fail
  refine (isL #[60] a b false w5 HH4).mono ?_
  rintro e w6 ⟨rfl, hbx⟩
  replace hb := below_next hb hbx
  clear hbx
  go_wp2_with fail
  refine (isL #[61, 61] a b true w6 HH5).mono ?_
  rintro e w7 ⟨rfl, hbx⟩
  replace hb := below_next hb hbx
  clear hbx
  go_wp2_with fail
  refine (isL #[60, 61] a b true w7 HH6).mono ?_
  rintro e w8 ⟨rfl, hbx⟩
  replace hb := below_next hb hbx
  clear hbx
  go_wp2_with fail
  refine (isL #[60, 61] b a true w8 HH7).mono ?_
  rintro e w9 ⟨rfl, hbx⟩
  replace hb := below_next hb hbx
  clear hbx
  go_wp2_with fail
  refine (isL #[61, 61] a a true w9 HH8).mono ?_
  rintro e w10 ⟨rfl, hbx⟩
  replace hb := below_next hb hbx
  clear hbx
  go_wp2_with fail
  refine (isL #[33, 61] b b false w10 HH9).mono ?_
  rintro e w11 ⟨rfl, hbx⟩
  replace hb := below_next hb hbx
  clear hbx
  go_wp2
  go_ret
  exact ⟨rfl, hb⟩

theorem less_ba (a b c : Int) (w : World) (h1 : b < a) : Calls Try.prog 10 #[.int .i64 a, .int .i64 b, .int .i64 c] w (Ret w (.bool true)) := by
  have HH0 := Lib.hid (show cmpV (Array.toList #[60]) (a == b) (a != b) (decide (a < b)) (decide (a ≤ b)) (decide (b < a)) (decide (b ≤ a)) = some false by simp [cmpV]; try omega)
  have HH1 := Lib.hid (show cmpV (Array.toList #[62]) (b == a) (b != a) (decide (b < a)) (decide (b ≤ a)) (decide (a < b)) (decide (a ≤ b)) = some false by simp [cmpV]; try omega)
  have HH2 := Lib.hid (show cmpV (Array.toList #[60, 61]) (a == b) (a != b) (decide (a < b)) (decide (a ≤ b)) (decide (b < a)) (decide (b ≤ a)) = some false by simp [cmpV]; try omega)
  have HH3 := Lib.hid (show cmpV (Array.toList #[62]) (a == b) (a != b) (decide (a < b)) (decide (a ≤ b)) (decide (b < a)) (decide (b ≤ a)) = some true by simp [cmpV]; try omega)
  have HH4 := Lib.hid (show cmpV (Array.toList #[60]) (a == b) (a != b) (decide (a < b)) (decide (a ≤ b)) (decide (b < a)) (decide (b ≤ a)) = some false by simp [cmpV]; try omega)
  have HH5 := Lib.hid (show cmpV (Array.toList #[61, 61]) (a == b) (a != b) (decide (a < b)) (decide (a ≤ b)) (decide (b < a)) (decide (b ≤ a)) = some false by simp [cmpV]; try omega)
  have HH6 := Lib.hid (show cmpV (Array.toList #[60, 61]) (a == b) (a != b) (decide (a < b)) (decide (a ≤ b)) (decide (b < a)) (decide (b ≤ a)) = some false by simp [cmpV]; try omega)
  have HH7 := Lib.hid (show cmpV (Array.toList #[61, 61]) (a == a) (a != a) (decide (a < a)) (decide (a ≤ a)) (decide (a < a)) (decide (a ≤ a)) = some true by simp [cmpV]; try omega)
  have HH8 := Lib.hid (show cmpV (Array.toList #[33, 61]) (b == b) (b != b) (decide (b < b)) (decide (b ≤ b)) (decide (b < b)) (decide (b ≤ b)) = some false by simp [cmpV]; try omega)
  clear h1
  go_enter Try.func10, Try.ntmps10
  go_wp2_with fail
  refine (alive_any w).mono ?_
  rintro e w1 ⟨rfl, hbx⟩
  have hb := hbx
  clear hbx
  go_wp2_with fail
  refine (isL #[60] a b false w1 HH0).mono ?_
  rintro e w2 ⟨rfl, hbx⟩
  replace hb := below_next hb hbx
  clear hbx
  go_wp2_with fail
  refine (isL #[62] b a false w2 HH1).mono ?_
  rintro e w3 ⟨rfl, hbx⟩
  replace hb := below_next hb hbx
  clear hbx
  go_wp2_with fail
  refine (isL #[60, 61] a b false w3 HH2).mono ?_
  rintro e w4 ⟨rfl, hbx⟩
  replace hb := below_next hb hbx
  clear hbx
  go_wp2_with fail
  refine (isL #[62] a b true w4 HH3).mono ?_
  rintro e w5 ⟨rfl, hbx⟩
  replace hb := below_next hb hbx
  clear hbx
  go_wp2_with fail
  refine (isL #[60] a b false w5 HH4).mono ?_
  rintro e w6 ⟨rfl, hbx⟩
  replace hb := below_next hb hbx
  clear hbx
  go_wp2_with fail
  refine (isL #[61, 61] a b false w6 HH5).mono ?_
  rintro e w7 ⟨rfl, hbx⟩
  replace hb := below_next hb hbx
  clear hbx
  go_wp2_with fail
  refine (isL #[60, 61] a b false w7 HH6).mono ?_
  rintro e w8 ⟨rfl, hbx⟩
  replace hb := below_next hb hbx
  clear hbx
  go_wp2_with fail
  refine (isL #[61, 61] a a true w8 HH7).mono ?_
  rintro e w9 ⟨rfl, hbx⟩
  replace hb := below_next hb hbx
  clear hbx
  go_wp2_with fail
  refine (isL #[33, 61] b b false w9 HH8).mono ?_
  rintro e w10 ⟨rfl, hbx⟩
  replace hb := below_next hb hbx
  clear hbx
  go_wp2
  go_ret
  exact ⟨rfl, hb⟩

theorem less_law (a b c : Int) (w : World) : Calls Try.prog 10 #[.int .i64 a, .int .i64 b, .int .i64 c] w (Ret w (.bool true)) := by
  rcases Int.lt_trichotomy a b with h | h | h
  · by_cases h2 : b < c
    · exact less_abc a b c w h h2
    · exact less_ab a b c w h h2
  · exact less_eq a b c w h
  · exact less_ba a b c w h
end Go.Proofs.Ytdeabmijoaepcaa
