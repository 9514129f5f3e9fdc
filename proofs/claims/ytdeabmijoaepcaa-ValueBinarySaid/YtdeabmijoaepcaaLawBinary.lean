/-
  The walk of ValueBinary.
-/
import Derived.Test.YtdeabmijoaepcaaRef8
namespace Go.Proofs.Ytdeabmijoaepcaa
open Go.RowKit Go.Stk

set_option maxHeartbeats 1000000 in
theorem binary_law (op : ByteArray) (t n b t2 n2 b2 : Int) (w : World) (h0 : 0 ≤ b) (h1 : 0 ≤ b2) (na : -9223372036854775808 ≤ n) (na2 : n ≤ 9223372036854775807) (nb : -9223372036854775808 ≤ n2) (nb2 : n2 ≤ 9223372036854775807) : Calls Try.prog 4 #[.string op, .agg #[.int .i64 t, .int .i64 n, .int .u64 b], .agg #[.int .i64 t2, .int .i64 n2, .int .u64 b2]] w (Ret w (.bool true)) := by
  obtain ⟨x, y, z, f, E⟩ := binR_form op.toList ⟨t, n, b⟩ ⟨t2, n2, b2⟩
  have HU := Lib.hid (fun W => by have := binary_any op ⟨t, n, b⟩ ⟨t2, n2, b2⟩ W; rw [E] at this; exact this : ∀ W : World, Calls Try.prog 15 #[.string op, .agg #[.int .i64 t, .int .i64 n, .int .u64 b], .agg #[.int .i64 t2, .int .i64 n2, .int .u64 b2]] W (Ret W (.tuple #[.agg #[.int .i64 x, .int .i64 y, .int .u64 z], .int .i64 f])))
  have HV := Lib.hid (fun W => by have := refBinary_any op ⟨t, n, b⟩ ⟨t2, n2, b2⟩ W h0 h1 na na2 nb nb2; rw [E] at this; exact this : ∀ W : World, Calls Try.prog 16 #[.string op, .agg #[.int .i64 t, .int .i64 n, .int .u64 b], .agg #[.int .i64 t2, .int .i64 n2, .int .u64 b2]] W (Ret W (.tuple #[.agg #[.int .i64 x, .int .i64 y, .int .u64 z], .int .i64 f])))
  clear E h0 h1 na na2 nb nb2
  go_enter Try.func4, Try.ntmps4
  go_wp2_with fail
  refine (alive_any ((w.alloc (.cells #[.int .i64 t, .int .i64 n, .int .u64 b] 24)).alloc (.cells #[.int .i64 t2, .int .i64 n2, .int .u64 b2] 24))).mono ?_
  rintro e w1 ⟨rfl, hbx⟩
  have px := ((lc3_new w (.int .i64 t) (.int .i64 n) (.int .u64 b) 24).later (below_alloc (Below.refl _ _) (.cells #[.int .i64 t2, .int .i64 n2, .int .u64 b2] 24))).later hbx
  have py := (lc3_new (w.alloc (.cells #[.int .i64 t, .int .i64 n, .int .u64 b] 24)) (.int .i64 t2) (.int .i64 n2) (.int .u64 b2) 24).later hbx
  rw [show (w.alloc (.cells #[.int .i64 t, .int .i64 n, .int .u64 b] 24)).heap.size = w.heap.size + 1 by simp] at py
  have hb := below_next (below_alloc (below_alloc (Below.refl w.heap.size w) (.cells #[.int .i64 t, .int .i64 n, .int .u64 b] 24)) (.cells #[.int .i64 t2, .int .i64 n2, .int .u64 b2] 24)) hbx
  clear hbx
  obtain ⟨c0px, c1px, c2px, szpx⟩ := px.all
  obtain ⟨c0py, c1py, c2py, szpy⟩ := py.all
  go_wp2_with fail
  refine (HU.out w1).mono ?_
  rintro e w2 ⟨rfl, hbx⟩
  replace px := px.later hbx
  replace py := py.later hbx
  replace hb := below_next hb hbx
  clear hbx c0px c1px c2px szpx c0py c1py c2py szpy
  obtain ⟨c0px, c1px, c2px, szpx⟩ := px.all
  obtain ⟨c0py, c1py, c2py, szpy⟩ := py.all
  go_wp2_with fail
  refine (HV.out (w2.alloc (.cells #[.int .i64 x, .int .i64 y, .int .u64 z] 24))).mono ?_
  rintro e w3 ⟨rfl, hbx⟩
  have pv := (lc3_new w2 (.int .i64 x) (.int .i64 y) (.int .u64 z) 24).later hbx
  replace hb := below_next (below_alloc hb _) hbx
  clear hbx c0px c1px c2px szpx c0py c1py c2py szpy
  obtain ⟨c0pv, c1pv, c2pv, szpv⟩ := pv.all
  go_wp2
  go_ret
  exact ⟨rfl, by repeat (first | exact hb | refine below_alloc ?_ _)⟩
end Go.Proofs.Ytdeabmijoaepcaa
