/-
  The walk of ValueBools.
-/
import Derived.Test.YtdeabmijoaepcaaInts
import Derived.Test.YtdeabmijoaepcaaVal7
namespace Go.Proofs.Ytdeabmijoaepcaa
open Go.RowKit Go.Stk

theorem binB (l : Array UInt8) (x y r : Int) (w : World) (hx : (Val.mk 3 x 0).good = true) (hy : (Val.mk 3 y 0).good = true) (h : boolsR l.toList (x == 1) (y == 1) = .tuple #[.agg #[.int .i64 3, .int .i64 r, .int .u64 0], .int .i64 0]) : Calls Try.prog 15 #[.string ⟨l⟩, .agg #[.int .i64 3, .int .i64 x, .int .u64 0], .agg #[.int .i64 3, .int .i64 y, .int .u64 0]] w (Ret w (.tuple #[.agg #[.int .i64 3, .int .i64 r, .int .u64 0], .int .i64 0])) := by
  have := bin_bool ⟨l⟩ ⟨3, x, 0⟩ ⟨3, y, 0⟩ w hx hy rfl rfl rfl
  rw [bl, h] at this; exact this
theorem unB (x r : Int) (w : World) (h : unR [33] ⟨3, x, 0⟩ = .tuple #[.agg #[.int .i64 3, .int .i64 r, .int .u64 0], .int .i64 0]) : Calls Try.prog 13 #[.string ⟨#[33]⟩, .agg #[.int .i64 3, .int .i64 x, .int .u64 0]] w (Ret w (.tuple #[.agg #[.int .i64 3, .int .i64 r, .int .u64 0], .int .i64 0])) := by
  have := unary_any ⟨#[33]⟩ ⟨3, x, 0⟩ w
  rw [bl, h] at this; exact this
theorem vbT (w : World) : Calls Try.prog 22 #[.bool true] w (Ret w (.agg #[.int .i64 3, .int .i64 1, .int .u64 0])) := valBool_any true w
theorem vbF (w : World) : Calls Try.prog 22 #[.bool false] w (Ret w (.agg #[.int .i64 3, .int .i64 0, .int .u64 0])) := valBool_any false w
theorem tr1 (w : World) : Calls Try.prog 20 #[.agg #[.int .i64 3, .int .i64 1, .int .u64 0]] w (Ret w (.bool true)) := valTrue_any 3 1 0 w
theorem tr0 (w : World) : Calls Try.prog 20 #[.agg #[.int .i64 3, .int .i64 0, .int .u64 0]] w (Ret w (.bool false)) := valTrue_any 3 0 0 w

theorem bools_00 (w : World) : Calls Try.prog 9 #[.bool false, .bool false] w (Ret w (.bool true)) := by
  go_enter Try.func9, Try.ntmps9
  go_wp2_with fail
  refine (alive_any w).mono ?_
  rintro e w1 ⟨rfl, hbx⟩
  have hb := hbx
  clear hbx
  go_wp2_with fail
  refine (vbF w1).mono ?_
  rintro e w2 ⟨rfl, hbx⟩
  replace hb := below_next hb hbx
  clear hbx
  go_wp2_with fail
  refine (vbF w2).mono ?_
  rintro e w3 ⟨rfl, hbx⟩
  replace hb := below_next hb hbx
  clear hbx
  go_wp2_with fail
  refine (binB #[38, 38] 0 0 0 ((w3.alloc (.cells #[.int .i64 3, .int .i64 0, .int .u64 0] 24)).alloc (.cells #[.int .i64 3, .int .i64 0, .int .u64 0] 24)) rfl rfl rfl).mono ?_
  rintro e w4 ⟨rfl, hbx⟩
  have px := (lc3_new w3 (.int .i64 3) (.int .i64 0) (.int .u64 0) 24).later ((Below.refl (w3.alloc (.cells #[.int .i64 3, .int .i64 0, .int .u64 0] 24)).heap.size (w3.alloc (.cells #[.int .i64 3, .int .i64 0, .int .u64 0] 24))).alloc (Nat.le_refl _) (.cells #[.int .i64 3, .int .i64 0, .int .u64 0] 24))
  replace px := px.later hbx
  have py := (lc3_new2 w3 (.cells #[.int .i64 3, .int .i64 0, .int .u64 0] 24) (.int .i64 3) (.int .i64 0) (.int .u64 0) 24)
  replace py := py.later hbx
  replace hbx := below_next (below_alloc (below_alloc (Below.refl w3.heap.size w3) (.cells #[.int .i64 3, .int .i64 0, .int .u64 0] 24)) (.cells #[.int .i64 3, .int .i64 0, .int .u64 0] 24)) hbx
  replace hb := below_next hb hbx
  clear hbx
  obtain ⟨c0px, c1px, c2px, szpx⟩ := px.all
  obtain ⟨c0py, c1py, c2py, szpy⟩ := py.all
  go_wp2_with fail
  refine (binB #[124, 124] 0 0 0 (w4.alloc (.cells #[.int .i64 3, .int .i64 0, .int .u64 0] 24)) rfl rfl rfl).mono ?_
  rintro e w5 ⟨rfl, hbx⟩
  have pa := (lc3_new w4 (.int .i64 3) (.int .i64 0) (.int .u64 0) 24)
  replace pa := pa.later hbx
  replace hbx := below_next (below_alloc (Below.refl w4.heap.size w4) (.cells #[.int .i64 3, .int .i64 0, .int .u64 0] 24)) hbx
  replace px := px.later hbx
  replace py := py.later hbx
  replace hb := below_next hb hbx
  clear hbx
  obtain ⟨c0px, c1px, c2px, szpx⟩ := px.all
  obtain ⟨c0py, c1py, c2py, szpy⟩ := py.all
  obtain ⟨c0pa, c1pa, c2pa, szpa⟩ := pa.all
  go_wp2_with fail
  refine (unB 0 1 (w5.alloc (.cells #[.int .i64 3, .int .i64 0, .int .u64 0] 24)) rfl).mono ?_
  rintro e w6 ⟨rfl, hbx⟩
  have po := (lc3_new w5 (.int .i64 3) (.int .i64 0) (.int .u64 0) 24)
  replace po := po.later hbx
  replace hbx := below_next (below_alloc (Below.refl w5.heap.size w5) (.cells #[.int .i64 3, .int .i64 0, .int .u64 0] 24)) hbx
  replace px := px.later hbx
  replace py := py.later hbx
  replace pa := pa.later hbx
  replace hb := below_next hb hbx
  clear hbx
  obtain ⟨c0px, c1px, c2px, szpx⟩ := px.all
  obtain ⟨c0py, c1py, c2py, szpy⟩ := py.all
  obtain ⟨c0pa, c1pa, c2pa, szpa⟩ := pa.all
  obtain ⟨c0po, c1po, c2po, szpo⟩ := po.all
  go_wp2_with fail
  refine (binB #[61, 61] 0 0 1 (w6.alloc (.cells #[.int .i64 3, .int .i64 1, .int .u64 0] 24)) rfl rfl rfl).mono ?_
  rintro e w7 ⟨rfl, hbx⟩
  have pn := (lc3_new w6 (.int .i64 3) (.int .i64 1) (.int .u64 0) 24)
  replace pn := pn.later hbx
  replace hbx := below_next (below_alloc (Below.refl w6.heap.size w6) (.cells #[.int .i64 3, .int .i64 1, .int .u64 0] 24)) hbx
  replace px := px.later hbx
  replace py := py.later hbx
  replace pa := pa.later hbx
  replace po := po.later hbx
  replace hb := below_next hb hbx
  clear hbx
  obtain ⟨c0px, c1px, c2px, szpx⟩ := px.all
  obtain ⟨c0py, c1py, c2py, szpy⟩ := py.all
  obtain ⟨c0pa, c1pa, c2pa, szpa⟩ := pa.all
  obtain ⟨c0po, c1po, c2po, szpo⟩ := po.all
  obtain ⟨c0pn, c1pn, c2pn, szpn⟩ := pn.all
  go_wp2_with fail
  refine (tr0 (w7.alloc (.cells #[.int .i64 3, .int .i64 1, .int .u64 0] 24))).mono ?_
  rintro e w8 ⟨rfl, hbx⟩
  have pe := (lc3_new w7 (.int .i64 3) (.int .i64 1) (.int .u64 0) 24)
  replace pe := pe.later hbx
  replace hbx := below_next (below_alloc (Below.refl w7.heap.size w7) (.cells #[.int .i64 3, .int .i64 1, .int .u64 0] 24)) hbx
  replace px := px.later hbx
  replace py := py.later hbx
  replace pa := pa.later hbx
  replace po := po.later hbx
  replace pn := pn.later hbx
  replace hb := below_next hb hbx
  clear hbx
  obtain ⟨c0px, c1px, c2px, szpx⟩ := px.all
  obtain ⟨c0py, c1py, c2py, szpy⟩ := py.all
  obtain ⟨c0pa, c1pa, c2pa, szpa⟩ := pa.all
  obtain ⟨c0po, c1po, c2po, szpo⟩ := po.all
  obtain ⟨c0pn, c1pn, c2pn, szpn⟩ := pn.all
  obtain ⟨c0pe, c1pe, c2pe, szpe⟩ := pe.all
  go_wp2_with fail
  refine (tr0 w8).mono ?_
  rintro e w9 ⟨rfl, hbx⟩
  replace px := px.later hbx
  replace py := py.later hbx
  replace pa := pa.later hbx
  replace po := po.later hbx
  replace pn := pn.later hbx
  replace pe := pe.later hbx
  replace hb := below_next hb hbx
  clear hbx
  obtain ⟨c0px, c1px, c2px, szpx⟩ := px.all
  obtain ⟨c0py, c1py, c2py, szpy⟩ := py.all
  obtain ⟨c0pa, c1pa, c2pa, szpa⟩ := pa.all
  obtain ⟨c0po, c1po, c2po, szpo⟩ := po.all
  obtain ⟨c0pn, c1pn, c2pn, szpn⟩ := pn.all
  obtain ⟨c0pe, c1pe, c2pe, szpe⟩ := pe.all
  go_wp2_with fail
  refine (tr1 w9).mono ?_
  rintro e w10 ⟨rfl, hbx⟩
  replace px := px.later hbx
  replace py := py.later hbx
  replace pa := pa.later hbx
  replace po := po.later hbx
  replace pn := pn.later hbx
  replace pe := pe.later hbx
  replace hb := below_next hb hbx
  clear hbx
  obtain ⟨c0px, c1px, c2px, szpx⟩ := px.all
  obtain ⟨c0py, c1py, c2py, szpy⟩ := py.all
  obtain ⟨c0pa, c1pa, c2pa, szpa⟩ := pa.all
  obtain ⟨c0po, c1po, c2po, szpo⟩ := po.all
  obtain ⟨c0pn, c1pn, c2pn, szpn⟩ := pn.all
  obtain ⟨c0pe, c1pe, c2pe, szpe⟩ := pe.all
  go_wp2_with fail
  refine (tr1 w10).mono ?_
  rintro e w11 ⟨rfl, hbx⟩
  replace px := px.later hbx
  replace py := py.later hbx
  replace pa := pa.later hbx
  replace po := po.later hbx
  replace pn := pn.later hbx
  replace pe := pe.later hbx
  replace hb := below_next hb hbx
  clear hbx
  obtain ⟨c0px, c1px, c2px, szpx⟩ := px.all
  obtain ⟨c0py, c1py, c2py, szpy⟩ := py.all
  obtain ⟨c0pa, c1pa, c2pa, szpa⟩ := pa.all
  obtain ⟨c0po, c1po, c2po, szpo⟩ := po.all
  obtain ⟨c0pn, c1pn, c2pn, szpn⟩ := pn.all
  obtain ⟨c0pe, c1pe, c2pe, szpe⟩ := pe.all
  go_wp2
  go_ret
  exact ⟨rfl, hb⟩

theorem bools_01 (w : World) : Calls Try.prog 9 #[.bool false, .bool true] w (Ret w (.bool true)) := by
  go_enter Try.func9, Try.ntmps9
  go_wp2_with fail
  refine (alive_any w).mono ?_
  rintro e w1 ⟨rfl, hbx⟩
  have hb := hbx
  clear hbx
  go_wp2_with fail
  refine (vbF w1).mono ?_
  rintro e w2 ⟨rfl, hbx⟩
  replace hb := below_next hb hbx
  clear hbx
  go_wp2_with fail
  refine (vbT w2).mono ?_
  rintro e w3 ⟨rfl, hbx⟩
  replace hb := below_next hb hbx
  clear hbx
  go_wp2_with fail
  refine (binB #[38, 38] 0 1 0 ((w3.alloc (.cells #[.int .i64 3, .int .i64 0, .int .u64 0] 24)).alloc (.cells #[.int .i64 3, .int .i64 1, .int .u64 0] 24)) rfl rfl rfl).mono ?_
  rintro e w4 ⟨rfl, hbx⟩
  have px := (lc3_new w3 (.int .i64 3) (.int .i64 0) (.int .u64 0) 24).later ((Below.refl (w3.alloc (.cells #[.int .i64 3, .int .i64 0, .int .u64 0] 24)).heap.size (w3.alloc (.cells #[.int .i64 3, .int .i64 0, .int .u64 0] 24))).alloc (Nat.le_refl _) (.cells #[.int .i64 3, .int .i64 1, .int .u64 0] 24))
  replace px := px.later hbx
  have py := (lc3_new2 w3 (.cells #[.int .i64 3, .int .i64 0, .int .u64 0] 24) (.int .i64 3) (.int .i64 1) (.int .u64 0) 24)
  replace py := py.later hbx
  replace hbx := below_next (below_alloc (below_alloc (Below.refl w3.heap.size w3) (.cells #[.int .i64 3, .int .i64 0, .int .u64 0] 24)) (.cells #[.int .i64 3, .int .i64 1, .int .u64 0] 24)) hbx
  replace hb := below_next hb hbx
  clear hbx
  obtain ⟨c0px, c1px, c2px, szpx⟩ := px.all
  obtain ⟨c0py, c1py, c2py, szpy⟩ := py.all
  go_wp2_with fail
  refine (binB #[124, 124] 0 1 1 (w4.alloc (.cells #[.int .i64 3, .int .i64 0, .int .u64 0] 24)) rfl rfl rfl).mono ?_
  rintro e w5 ⟨rfl, hbx⟩
  have pa := (lc3_new w4 (.int .i64 3) (.int .i64 0) (.int .u64 0) 24)
  replace pa := pa.later hbx
  replace hbx := below_next (below_alloc (Below.refl w4.heap.size w4) (.cells #[.int .i64 3, .int .i64 0, .int .u64 0] 24)) hbx
  replace px := px.later hbx
  replace py := py.later hbx
  replace hb := below_next hb hbx
  clear hbx
  obtain ⟨c0px, c1px, c2px, szpx⟩ := px.all
  obtain ⟨c0py, c1py, c2py, szpy⟩ := py.all
  obtain ⟨c0pa, c1pa, c2pa, szpa⟩ := pa.all
  go_wp2_with fail
  refine (unB 0 1 (w5.alloc (.cells #[.int .i64 3, .int .i64 1, .int .u64 0] 24)) rfl).mono ?_
  rintro e w6 ⟨rfl, hbx⟩
  have po := (lc3_new w5 (.int .i64 3) (.int .i64 1) (.int .u64 0) 24)
  replace po := po.later hbx
  replace hbx := below_next (below_alloc (Below.refl w5.heap.size w5) (.cells #[.int .i64 3, .int .i64 1, .int .u64 0] 24)) hbx
  replace px := px.later hbx
  replace py := py.later hbx
  replace pa := pa.later hbx
  replace hb := below_next hb hbx
  clear hbx
  obtain ⟨c0px, c1px, c2px, szpx⟩ := px.all
  obtain ⟨c0py, c1py, c2py, szpy⟩ := py.all
  obtain ⟨c0pa, c1pa, c2pa, szpa⟩ := pa.all
  obtain ⟨c0po, c1po, c2po, szpo⟩ := po.all
  go_wp2_with fail
  refine (binB #[61, 61] 0 1 0 (w6.alloc (.cells #[.int .i64 3, .int .i64 1, .int .u64 0] 24)) rfl rfl rfl).mono ?_
  rintro e w7 ⟨rfl, hbx⟩
  have pn := (lc3_new w6 (.int .i64 3) (.int .i64 1) (.int .u64 0) 24)
  replace pn := pn.later hbx
  replace hbx := below_next (below_alloc (Below.refl w6.heap.size w6) (.cells #[.int .i64 3, .int .i64 1, .int .u64 0] 24)) hbx
  replace px := px.later hbx
  replace py := py.later hbx
  replace pa := pa.later hbx
  replace po := po.later hbx
  replace hb := below_next hb hbx
  clear hbx
  obtain ⟨c0px, c1px, c2px, szpx⟩ := px.all
  obtain ⟨c0py, c1py, c2py, szpy⟩ := py.all
  obtain ⟨c0pa, c1pa, c2pa, szpa⟩ := pa.all
  obtain ⟨c0po, c1po, c2po, szpo⟩ := po.all
  obtain ⟨c0pn, c1pn, c2pn, szpn⟩ := pn.all
  go_wp2_with fail
  refine (tr0 (w7.alloc (.cells #[.int .i64 3, .int .i64 0, .int .u64 0] 24))).mono ?_
  rintro e w8 ⟨rfl, hbx⟩
  have pe := (lc3_new w7 (.int .i64 3) (.int .i64 0) (.int .u64 0) 24)
  replace pe := pe.later hbx
  replace hbx := below_next (below_alloc (Below.refl w7.heap.size w7) (.cells #[.int .i64 3, .int .i64 0, .int .u64 0] 24)) hbx
  replace px := px.later hbx
  replace py := py.later hbx
  replace pa := pa.later hbx
  replace po := po.later hbx
  replace pn := pn.later hbx
  replace hb := below_next hb hbx
  clear hbx
  obtain ⟨c0px, c1px, c2px, szpx⟩ := px.all
  obtain ⟨c0py, c1py, c2py, szpy⟩ := py.all
  obtain ⟨c0pa, c1pa, c2pa, szpa⟩ := pa.all
  obtain ⟨c0po, c1po, c2po, szpo⟩ := po.all
  obtain ⟨c0pn, c1pn, c2pn, szpn⟩ := pn.all
  obtain ⟨c0pe, c1pe, c2pe, szpe⟩ := pe.all
  go_wp2_with fail
  refine (tr1 w8).mono ?_
  rintro e w9 ⟨rfl, hbx⟩
  replace px := px.later hbx
  replace py := py.later hbx
  replace pa := pa.later hbx
  replace po := po.later hbx
  replace pn := pn.later hbx
  replace pe := pe.later hbx
  replace hb := below_next hb hbx
  clear hbx
  obtain ⟨c0px, c1px, c2px, szpx⟩ := px.all
  obtain ⟨c0py, c1py, c2py, szpy⟩ := py.all
  obtain ⟨c0pa, c1pa, c2pa, szpa⟩ := pa.all
  obtain ⟨c0po, c1po, c2po, szpo⟩ := po.all
  obtain ⟨c0pn, c1pn, c2pn, szpn⟩ := pn.all
  obtain ⟨c0pe, c1pe, c2pe, szpe⟩ := pe.all
  go_wp2_with fail
  refine (tr1 w9).mono ?_
  rintro e w10 ⟨rfl, hbx⟩
  replace px := px.later hbx
  replace py := py.later hbx
  replace pa := pa.later hbx
  replace po := po.later hbx
  replace pn := pn.later hbx
  replace pe := pe.later hbx
  replace hb := below_next hb hbx
  clear hbx
  obtain ⟨c0px, c1px, c2px, szpx⟩ := px.all
  obtain ⟨c0py, c1py, c2py, szpy⟩ := py.all
  obtain ⟨c0pa, c1pa, c2pa, szpa⟩ := pa.all
  obtain ⟨c0po, c1po, c2po, szpo⟩ := po.all
  obtain ⟨c0pn, c1pn, c2pn, szpn⟩ := pn.all
  obtain ⟨c0pe, c1pe, c2pe, szpe⟩ := pe.all
  go_wp2_with fail
  refine (tr0 w10).mono ?_
  rintro e w11 ⟨rfl, hbx⟩
  replace px := px.later hbx
  replace py := py.later hbx
  replace pa := pa.later hbx
  replace po := po.later hbx
  replace pn := pn.later hbx
  replace pe := pe.later hbx
  replace hb := below_next hb hbx
  clear hbx
  obtain ⟨c0px, c1px, c2px, szpx⟩ := px.all
  obtain ⟨c0py, c1py, c2py, szpy⟩ := py.all
  obtain ⟨c0pa, c1pa, c2pa, szpa⟩ := pa.all
  obtain ⟨c0po, c1po, c2po, szpo⟩ := po.all
  obtain ⟨c0pn, c1pn, c2pn, szpn⟩ := pn.all
  obtain ⟨c0pe, c1pe, c2pe, szpe⟩ := pe.all
  go_wp2
  go_ret
  exact ⟨rfl, hb⟩

theorem bools_10 (w : World) : Calls Try.prog 9 #[.bool true, .bool false] w (Ret w (.bool true)) := by
  go_enter Try.func9, Try.ntmps9
  go_wp2_with fail
  refine (alive_any w).mono ?_
  rintro e w1 ⟨rfl, hbx⟩
  have hb := hbx
  clear hbx
  go_wp2_with fail
  refine (vbT w1).mono ?_
  rintro e w2 ⟨rfl, hbx⟩
  replace hb := below_next hb hbx
  clear hbx
  go_wp2_with fail
  refine (vbF w2).mono ?_
  rintro e w3 ⟨rfl, hbx⟩
  replace hb := below_next hb hbx
  clear hbx
  go_wp2_with fail
  refine (binB #[38, 38] 1 0 0 ((w3.alloc (.cells #[.int .i64 3, .int .i64 1, .int .u64 0] 24)).alloc (.cells #[.int .i64 3, .int .i64 0, .int .u64 0] 24)) rfl rfl rfl).mono ?_
  rintro e w4 ⟨rfl, hbx⟩
  have px := (lc3_new w3 (.int .i64 3) (.int .i64 1) (.int .u64 0) 24).later ((Below.refl (w3.alloc (.cells #[.int .i64 3, .int .i64 1, .int .u64 0] 24)).heap.size (w3.alloc (.cells #[.int .i64 3, .int .i64 1, .int .u64 0] 24))).alloc (Nat.le_refl _) (.cells #[.int .i64 3, .int .i64 0, .int .u64 0] 24))
  replace px := px.later hbx
  have py := (lc3_new2 w3 (.cells #[.int .i64 3, .int .i64 1, .int .u64 0] 24) (.int .i64 3) (.int .i64 0) (.int .u64 0) 24)
  replace py := py.later hbx
  replace hbx := below_next (below_alloc (below_alloc (Below.refl w3.heap.size w3) (.cells #[.int .i64 3, .int .i64 1, .int .u64 0] 24)) (.cells #[.int .i64 3, .int .i64 0, .int .u64 0] 24)) hbx
  replace hb := below_next hb hbx
  clear hbx
  obtain ⟨c0px, c1px, c2px, szpx⟩ := px.all
  obtain ⟨c0py, c1py, c2py, szpy⟩ := py.all
  go_wp2_with fail
  refine (binB #[124, 124] 1 0 1 (w4.alloc (.cells #[.int .i64 3, .int .i64 0, .int .u64 0] 24)) rfl rfl rfl).mono ?_
  rintro e w5 ⟨rfl, hbx⟩
  have pa := (lc3_new w4 (.int .i64 3) (.int .i64 0) (.int .u64 0) 24)
  replace pa := pa.later hbx
  replace hbx := below_next (below_alloc (Below.refl w4.heap.size w4) (.cells #[.int .i64 3, .int .i64 0, .int .u64 0] 24)) hbx
  replace px := px.later hbx
  replace py := py.later hbx
  replace hb := below_next hb hbx
  clear hbx
  obtain ⟨c0px, c1px, c2px, szpx⟩ := px.all
  obtain ⟨c0py, c1py, c2py, szpy⟩ := py.all
  obtain ⟨c0pa, c1pa, c2pa, szpa⟩ := pa.all
  go_wp2_with fail
  refine (unB 1 0 (w5.alloc (.cells #[.int .i64 3, .int .i64 1, .int .u64 0] 24)) rfl).mono ?_
  rintro e w6 ⟨rfl, hbx⟩
  have po := (lc3_new w5 (.int .i64 3) (.int .i64 1) (.int .u64 0) 24)
  replace po := po.later hbx
  replace hbx := below_next (below_alloc (Below.refl w5.heap.size w5) (.cells #[.int .i64 3, .int .i64 1, .int .u64 0] 24)) hbx
  replace px := px.later hbx
  replace py := py.later hbx
  replace pa := pa.later hbx
  replace hb := below_next hb hbx
  clear hbx
  obtain ⟨c0px, c1px, c2px, szpx⟩ := px.all
  obtain ⟨c0py, c1py, c2py, szpy⟩ := py.all
  obtain ⟨c0pa, c1pa, c2pa, szpa⟩ := pa.all
  obtain ⟨c0po, c1po, c2po, szpo⟩ := po.all
  go_wp2_with fail
  refine (binB #[61, 61] 1 0 0 (w6.alloc (.cells #[.int .i64 3, .int .i64 0, .int .u64 0] 24)) rfl rfl rfl).mono ?_
  rintro e w7 ⟨rfl, hbx⟩
  have pn := (lc3_new w6 (.int .i64 3) (.int .i64 0) (.int .u64 0) 24)
  replace pn := pn.later hbx
  replace hbx := below_next (below_alloc (Below.refl w6.heap.size w6) (.cells #[.int .i64 3, .int .i64 0, .int .u64 0] 24)) hbx
  replace px := px.later hbx
  replace py := py.later hbx
  replace pa := pa.later hbx
  replace po := po.later hbx
  replace hb := below_next hb hbx
  clear hbx
  obtain ⟨c0px, c1px, c2px, szpx⟩ := px.all
  obtain ⟨c0py, c1py, c2py, szpy⟩ := py.all
  obtain ⟨c0pa, c1pa, c2pa, szpa⟩ := pa.all
  obtain ⟨c0po, c1po, c2po, szpo⟩ := po.all
  obtain ⟨c0pn, c1pn, c2pn, szpn⟩ := pn.all
  go_wp2_with fail
  refine (tr0 (w7.alloc (.cells #[.int .i64 3, .int .i64 0, .int .u64 0] 24))).mono ?_
  rintro e w8 ⟨rfl, hbx⟩
  have pe := (lc3_new w7 (.int .i64 3) (.int .i64 0) (.int .u64 0) 24)
  replace pe := pe.later hbx
  replace hbx := below_next (below_alloc (Below.refl w7.heap.size w7) (.cells #[.int .i64 3, .int .i64 0, .int .u64 0] 24)) hbx
  replace px := px.later hbx
  replace py := py.later hbx
  replace pa := pa.later hbx
  replace po := po.later hbx
  replace pn := pn.later hbx
  replace hb := below_next hb hbx
  clear hbx
  obtain ⟨c0px, c1px, c2px, szpx⟩ := px.all
  obtain ⟨c0py, c1py, c2py, szpy⟩ := py.all
  obtain ⟨c0pa, c1pa, c2pa, szpa⟩ := pa.all
  obtain ⟨c0po, c1po, c2po, szpo⟩ := po.all
  obtain ⟨c0pn, c1pn, c2pn, szpn⟩ := pn.all
  obtain ⟨c0pe, c1pe, c2pe, szpe⟩ := pe.all
  go_wp2_with fail
  refine (tr1 w8).mono ?_
  rintro e w9 ⟨rfl, hbx⟩
  replace px := px.later hbx
  replace py := py.later hbx
  replace pa := pa.later hbx
  replace po := po.later hbx
  replace pn := pn.later hbx
  replace pe := pe.later hbx
  replace hb := below_next hb hbx
  clear hbx
  obtain ⟨c0px, c1px, c2px, szpx⟩ := px.all
  obtain ⟨c0py, c1py, c2py, szpy⟩ := py.all
  obtain ⟨c0pa, c1pa, c2pa, szpa⟩ := pa.all
  obtain ⟨c0po, c1po, c2po, szpo⟩ := po.all
  obtain ⟨c0pn, c1pn, c2pn, szpn⟩ := pn.all
  obtain ⟨c0pe, c1pe, c2pe, szpe⟩ := pe.all
  go_wp2_with fail
  refine (tr0 w9).mono ?_
  rintro e w10 ⟨rfl, hbx⟩
  replace px := px.later hbx
  replace py := py.later hbx
  replace pa := pa.later hbx
  replace po := po.later hbx
  replace pn := pn.later hbx
  replace pe := pe.later hbx
  replace hb := below_next hb hbx
  clear hbx
  obtain ⟨c0px, c1px, c2px, szpx⟩ := px.all
  obtain ⟨c0py, c1py, c2py, szpy⟩ := py.all
  obtain ⟨c0pa, c1pa, c2pa, szpa⟩ := pa.all
  obtain ⟨c0po, c1po, c2po, szpo⟩ := po.all
  obtain ⟨c0pn, c1pn, c2pn, szpn⟩ := pn.all
  obtain ⟨c0pe, c1pe, c2pe, szpe⟩ := pe.all
  go_wp2_with fail
  refine (tr0 w10).mono ?_
  rintro e w11 ⟨rfl, hbx⟩
  replace px := px.later hbx
  replace py := py.later hbx
  replace pa := pa.later hbx
  replace po := po.later hbx
  replace pn := pn.later hbx
  replace pe := pe.later hbx
  replace hb := below_next hb hbx
  clear hbx
  obtain ⟨c0px, c1px, c2px, szpx⟩ := px.all
  obtain ⟨c0py, c1py, c2py, szpy⟩ := py.all
  obtain ⟨c0pa, c1pa, c2pa, szpa⟩ := pa.all
  obtain ⟨c0po, c1po, c2po, szpo⟩ := po.all
  obtain ⟨c0pn, c1pn, c2pn, szpn⟩ := pn.all
  obtain ⟨c0pe, c1pe, c2pe, szpe⟩ := pe.all
  go_wp2
  go_ret
  exact ⟨rfl, hb⟩

theorem bools_11 (w : World) : Calls Try.prog 9 #[.bool true, .bool true] w (Ret w (.bool true)) := by
  go_enter Try.func9, Try.ntmps9
  go_wp2_with fail
  refine (alive_any w).mono ?_
  rintro e w1 ⟨rfl, hbx⟩
  have hb := hbx
  clear hbx
  go_wp2_with fail
  refine (vbT w1).mono ?_
  rintro e w2 ⟨rfl, hbx⟩
  replace hb := below_next hb hbx
  clear hbx
  go_wp2_with fail
  refine (vbT w2).mono ?_
  rintro e w3 ⟨rfl, hbx⟩
  replace hb := below_next hb hbx
  clear hbx
  go_wp2_with fail
  refine (binB #[38, 38] 1 1 1 ((w3.alloc (.cells #[.int .i64 3, .int .i64 1, .int .u64 0] 24)).alloc (.cells #[.int .i64 3, .int .i64 1, .int .u64 0] 24)) rfl rfl rfl).mono ?_
  rintro e w4 ⟨rfl, hbx⟩
  have px := (lc3_new w3 (.int .i64 3) (.int .i64 1) (.int .u64 0) 24).later ((Below.refl (w3.alloc (.cells #[.int .i64 3, .int .i64 1, .int .u64 0] 24)).heap.size (w3.alloc (.cells #[.int .i64 3, .int .i64 1, .int .u64 0] 24))).alloc (Nat.le_refl _) (.cells #[.int .i64 3, .int .i64 1, .int .u64 0] 24))
  replace px := px.later hbx
  have py := (lc3_new2 w3 (.cells #[.int .i64 3, .int .i64 1, .int .u64 0] 24) (.int .i64 3) (.int .i64 1) (.int .u64 0) 24)
  replace py := py.later hbx
  replace hbx := below_next (below_alloc (below_alloc (Below.refl w3.heap.size w3) (.cells #[.int .i64 3, .int .i64 1, .int .u64 0] 24)) (.cells #[.int .i64 3, .int .i64 1, .int .u64 0] 24)) hbx
  replace hb := below_next hb hbx
  clear hbx
  obtain ⟨c0px, c1px, c2px, szpx⟩ := px.all
  obtain ⟨c0py, c1py, c2py, szpy⟩ := py.all
  go_wp2_with fail
  refine (binB #[124, 124] 1 1 1 (w4.alloc (.cells #[.int .i64 3, .int .i64 1, .int .u64 0] 24)) rfl rfl rfl).mono ?_
  rintro e w5 ⟨rfl, hbx⟩
  have pa := (lc3_new w4 (.int .i64 3) (.int .i64 1) (.int .u64 0) 24)
  replace pa := pa.later hbx
  replace hbx := below_next (below_alloc (Below.refl w4.heap.size w4) (.cells #[.int .i64 3, .int .i64 1, .int .u64 0] 24)) hbx
  replace px := px.later hbx
  replace py := py.later hbx
  replace hb := below_next hb hbx
  clear hbx
  obtain ⟨c0px, c1px, c2px, szpx⟩ := px.all
  obtain ⟨c0py, c1py, c2py, szpy⟩ := py.all
  obtain ⟨c0pa, c1pa, c2pa, szpa⟩ := pa.all
  go_wp2_with fail
  refine (unB 1 0 (w5.alloc (.cells #[.int .i64 3, .int .i64 1, .int .u64 0] 24)) rfl).mono ?_
  rintro e w6 ⟨rfl, hbx⟩
  have po := (lc3_new w5 (.int .i64 3) (.int .i64 1) (.int .u64 0) 24)
  replace po := po.later hbx
  replace hbx := below_next (below_alloc (Below.refl w5.heap.size w5) (.cells #[.int .i64 3, .int .i64 1, .int .u64 0] 24)) hbx
  replace px := px.later hbx
  replace py := py.later hbx
  replace pa := pa.later hbx
  replace hb := below_next hb hbx
  clear hbx
  obtain ⟨c0px, c1px, c2px, szpx⟩ := px.all
  obtain ⟨c0py, c1py, c2py, szpy⟩ := py.all
  obtain ⟨c0pa, c1pa, c2pa, szpa⟩ := pa.all
  obtain ⟨c0po, c1po, c2po, szpo⟩ := po.all
  go_wp2_with fail
  refine (binB #[61, 61] 1 1 1 (w6.alloc (.cells #[.int .i64 3, .int .i64 0, .int .u64 0] 24)) rfl rfl rfl).mono ?_
  rintro e w7 ⟨rfl, hbx⟩
  have pn := (lc3_new w6 (.int .i64 3) (.int .i64 0) (.int .u64 0) 24)
  replace pn := pn.later hbx
  replace hbx := below_next (below_alloc (Below.refl w6.heap.size w6) (.cells #[.int .i64 3, .int .i64 0, .int .u64 0] 24)) hbx
  replace px := px.later hbx
  replace py := py.later hbx
  replace pa := pa.later hbx
  replace po := po.later hbx
  replace hb := below_next hb hbx
  clear hbx
  obtain ⟨c0px, c1px, c2px, szpx⟩ := px.all
  obtain ⟨c0py, c1py, c2py, szpy⟩ := py.all
  obtain ⟨c0pa, c1pa, c2pa, szpa⟩ := pa.all
  obtain ⟨c0po, c1po, c2po, szpo⟩ := po.all
  obtain ⟨c0pn, c1pn, c2pn, szpn⟩ := pn.all
  go_wp2_with fail
  refine (tr1 (w7.alloc (.cells #[.int .i64 3, .int .i64 1, .int .u64 0] 24))).mono ?_
  rintro e w8 ⟨rfl, hbx⟩
  have pe := (lc3_new w7 (.int .i64 3) (.int .i64 1) (.int .u64 0) 24)
  replace pe := pe.later hbx
  replace hbx := below_next (below_alloc (Below.refl w7.heap.size w7) (.cells #[.int .i64 3, .int .i64 1, .int .u64 0] 24)) hbx
  replace px := px.later hbx
  replace py := py.later hbx
  replace pa := pa.later hbx
  replace po := po.later hbx
  replace pn := pn.later hbx
  replace hb := below_next hb hbx
  clear hbx
  obtain ⟨c0px, c1px, c2px, szpx⟩ := px.all
  obtain ⟨c0py, c1py, c2py, szpy⟩ := py.all
  obtain ⟨c0pa, c1pa, c2pa, szpa⟩ := pa.all
  obtain ⟨c0po, c1po, c2po, szpo⟩ := po.all
  obtain ⟨c0pn, c1pn, c2pn, szpn⟩ := pn.all
  obtain ⟨c0pe, c1pe, c2pe, szpe⟩ := pe.all
  go_wp2_with fail
  refine (tr1 w8).mono ?_
  rintro e w9 ⟨rfl, hbx⟩
  replace px := px.later hbx
  replace py := py.later hbx
  replace pa := pa.later hbx
  replace po := po.later hbx
  replace pn := pn.later hbx
  replace pe := pe.later hbx
  replace hb := below_next hb hbx
  clear hbx
  obtain ⟨c0px, c1px, c2px, szpx⟩ := px.all
  obtain ⟨c0py, c1py, c2py, szpy⟩ := py.all
  obtain ⟨c0pa, c1pa, c2pa, szpa⟩ := pa.all
  obtain ⟨c0po, c1po, c2po, szpo⟩ := po.all
  obtain ⟨c0pn, c1pn, c2pn, szpn⟩ := pn.all
  obtain ⟨c0pe, c1pe, c2pe, szpe⟩ := pe.all
  go_wp2_with fail
  refine (tr0 w9).mono ?_
  rintro e w10 ⟨rfl, hbx⟩
  replace px := px.later hbx
  replace py := py.later hbx
  replace pa := pa.later hbx
  replace po := po.later hbx
  replace pn := pn.later hbx
  replace pe := pe.later hbx
  replace hb := below_next hb hbx
  clear hbx
  obtain ⟨c0px, c1px, c2px, szpx⟩ := px.all
  obtain ⟨c0py, c1py, c2py, szpy⟩ := py.all
  obtain ⟨c0pa, c1pa, c2pa, szpa⟩ := pa.all
  obtain ⟨c0po, c1po, c2po, szpo⟩ := po.all
  obtain ⟨c0pn, c1pn, c2pn, szpn⟩ := pn.all
  obtain ⟨c0pe, c1pe, c2pe, szpe⟩ := pe.all
  go_wp2_with fail
  refine (tr1 w10).mono ?_
  rintro e w11 ⟨rfl, hbx⟩
  replace px := px.later hbx
  replace py := py.later hbx
  replace pa := pa.later hbx
  replace po := po.later hbx
  replace pn := pn.later hbx
  replace pe := pe.later hbx
  replace hb := below_next hb hbx
  clear hbx
  obtain ⟨c0px, c1px, c2px, szpx⟩ := px.all
  obtain ⟨c0py, c1py, c2py, szpy⟩ := py.all
  obtain ⟨c0pa, c1pa, c2pa, szpa⟩ := pa.all
  obtain ⟨c0po, c1po, c2po, szpo⟩ := po.all
  obtain ⟨c0pn, c1pn, c2pn, szpn⟩ := pn.all
  obtain ⟨c0pe, c1pe, c2pe, szpe⟩ := pe.all
  go_wp2
  go_ret
  exact ⟨rfl, hb⟩

theorem bools_law (a b : Bool) (w : World) : Calls Try.prog 9 #[.bool a, .bool b] w (Ret w (.bool true)) := by
  cases a <;> cases b
  · exact bools_00 w
  · exact bools_01 w
  · exact bools_10 w
  · exact bools_11 w
end Go.Proofs.Ytdeabmijoaepcaa
