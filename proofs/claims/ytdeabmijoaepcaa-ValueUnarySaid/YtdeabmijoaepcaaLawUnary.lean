/-
  The walk of ValueUnary.
-/
import Derived.Test.YtdeabmijoaepcaaRef3
namespace Go.Proofs.Ytdeabmijoaepcaa
open Go.RowKit Go.Stk

theorem unR_form (l : List UInt8) (a : Val) : ∃ t n q f : Int, unR l a = .tuple #[.agg #[.int .i64 t, .int .i64 n, .int .u64 q], .int .i64 f] := by
  unfold unR
  repeat' split
  all_goals first
    | exact toIntR_form _
    | exact ⟨_, _, _, _, rfl⟩
theorem unary_law (op : ByteArray) (t n b : Int) (w : World) (h0 : 0 ≤ b) (h1 : b ≤ 18446744073709551615) : Calls Try.prog 3 #[.string op, .agg #[.int .i64 t, .int .i64 n, .int .u64 b]] w (Ret w (.bool true)) := by
  obtain ⟨x, y, z, f, E⟩ := unR_form op.toList ⟨t, n, b⟩
  have HU := Lib.hid (fun W => by have := unary_any op ⟨t, n, b⟩ W; rw [E] at this; exact this : ∀ W : World, Calls Try.prog 13 #[.string op, .agg #[.int .i64 t, .int .i64 n, .int .u64 b]] W (Ret W (.tuple #[.agg #[.int .i64 x, .int .i64 y, .int .u64 z], .int .i64 f])))
  have HV := Lib.hid (fun W => by have := refUnary_any op ⟨t, n, b⟩ W h0 (by show b < _; omega); rw [E] at this; exact this : ∀ W : World, Calls Try.prog 14 #[.string op, .agg #[.int .i64 t, .int .i64 n, .int .u64 b]] W (Ret W (.tuple #[.agg #[.int .i64 x, .int .i64 y, .int .u64 z], .int .i64 f])))
  clear E h0 h1
  go_enter Try.func3, Try.ntmps3
  go_wp2_with fail
  refine (alive_any (w.alloc (.cells #[.int .i64 t, .int .i64 n, .int .u64 b] 24))).mono ?_
  rintro e w1 ⟨rfl, hbx⟩
  have px := (lc3_new w (.int .i64 t) (.int .i64 n) (.int .u64 b) 24)
  replace px := px.later hbx
  replace hbx := below_next (below_alloc (Below.refl w.heap.size w) (.cells #[.int .i64 t, .int .i64 n, .int .u64 b] 24)) hbx
  have hb := hbx
  clear hbx
  obtain ⟨c0px, c1px, c2px, szpx⟩ := px.all
  go_wp2_with fail
  refine (HU.out w1).mono ?_
  rintro e w2 ⟨rfl, hbx⟩
  replace px := px.later hbx
  replace hb := below_next hb hbx
  clear hbx
  obtain ⟨c0px, c1px, c2px, szpx⟩ := px.all
  go_wp2_with fail
  refine (HV.out (w2.alloc (.cells #[.int .i64 x, .int .i64 y, .int .u64 z] 24))).mono ?_
  rintro e w3 ⟨rfl, hbx⟩
  have pv := (lc3_new w2 (.int .i64 x) (.int .i64 y) (.int .u64 z) 24)
  replace pv := pv.later hbx
  replace hbx := below_next (below_alloc (Below.refl w2.heap.size w2) (.cells #[.int .i64 x, .int .i64 y, .int .u64 z] 24)) hbx
  replace px := px.later hbx
  replace hb := below_next hb hbx
  clear hbx
  obtain ⟨c0px, c1px, c2px, szpx⟩ := px.all
  obtain ⟨c0pv, c1pv, c2pv, szpv⟩ := pv.all
  go_wp2
  go_ret
  exact ⟨rfl, by repeat (first | exact hb | refine below_alloc ?_ _)⟩
end Go.Proofs.Ytdeabmijoaepcaa
