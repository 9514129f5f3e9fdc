/-
  What goroutines share: a value's type asked; a place read and written.
-/
import Derived.Test.YtmalbdoneghnmaaDoorSync2
import Derived.Deep.RegionWith
namespace Go.Proofs.YtmalbdoneghnmaaDoor
open Go.RowKit Go.Stk
attribute [local go_sem ↓] Go.wp_at_zero Go.wp_at_succ

theorem below_drew1 {w W : World} (h : Below w.heap.size w W) : Below w.heap.size w W.drew := h.drew
theorem of_ok (t n b : Int) (w : World) (h : Val.good ⟨t, n, b⟩ = true) : Calls Tryd.prog 36 #[.agg #[.int .i64 t, .int .i64 n, .int .u64 b], .int .i64 t] w (Ret w .nilIface) := by
  have H := Lib.hid h
  clear h
  go_enter Tryd.func36, Tryd.ntmps36
  go_wp2_with fail
  have hj := valGood_any t n b (w.alloc (.cells #[.int .i64 t, .int .i64 n, .int .u64 b] 37))
  rw [show (Val.mk t n b).good = true from H.out] at hj
  refine hj.mono ?_
  rintro e w1 ⟨rfl, hb⟩
  clear hj
  obtain ⟨c0, c1, c2, f0, f1, f2, hz⟩ := res3 hb
  replace hb := below_next (below_alloc (Below.refl w.heap.size w) _) hb
  go_wp2_with fail
  go_ret
  exact ⟨rfl, hb⟩
theorem of_bad (t n b k : Int) (w : World) (er et : Addr) (hE : Errs w er et) (h : Val.good ⟨t, n, b⟩ = false ∨ t ≠ k) : Calls Tryd.prog 36 #[.agg #[.int .i64 t, .int .i64 n, .int .u64 b], .int .i64 k] w (Ret w (errV et)) := by
  obtain ⟨z, hz⟩ : ∃ z, Val.good ⟨t, n, b⟩ = z := ⟨_, rfl⟩
  have HE := Lib.hid hE
  cases z
  · have H := Lib.hid hz
    clear h hz hE
    go_enter Tryd.func36, Tryd.ntmps36
    go_wp2_with fail
    have hj := valGood_any t n b (w.alloc (.cells #[.int .i64 t, .int .i64 n, .int .u64 b] 37))
    rw [show (Val.mk t n b).good = false from H.out] at hj
    refine hj.mono ?_
    rintro e w1 ⟨rfl, hb⟩
    clear hj
    replace hb := below_next (below_alloc (Below.refl w.heap.size w) _) hb
    have ht := (HE.out.later hb).t
    go_wp2_with fail
    go_ret
    exact ⟨rfl, hb⟩
  · have hk : (t != k) = true := by
      rcases h with h | h
      · rw [hz] at h; cases h
      · simpa using h
    have H := Lib.hid hz
    clear h hz hE
    go_enter Tryd.func36, Tryd.ntmps36
    go_wp2_with fail
    have hj := valGood_any t n b (w.alloc (.cells #[.int .i64 t, .int .i64 n, .int .u64 b] 37))
    rw [show (Val.mk t n b).good = true from H.out] at hj
    refine hj.mono ?_
    rintro e w1 ⟨rfl, hb⟩
    clear hj
    obtain ⟨c0, c1, c2, f0, f1, f2, hz⟩ := res3 hb
    replace hb := below_next (below_alloc (Below.refl w.heap.size w) _) hb
    have ht := (HE.out.later hb).t
    go_wp2_with fail
    go_ret
    exact ⟨rfl, hb⟩

theorem read_out (i : Int) (w : World) (L : Lay) (S : St) (h : Rep w L S) (er et : Addr) (hE : Errs w er et) (hi : Out i S.places.length) : Calls Tryd.prog 21 #[.pointer (some ⟨L.b, 0, none⟩), .int .i64 i] w (Ret w (.tuple #[.agg #[.int .i64 0, .int .i64 0, .int .u64 0], errV er])) := by
  obtain ⟨A, c, ev, _⟩ := h.places.form
  have f1 := h.fields.1
  rw [ev] at f1
  have hlt := blk_lt h.blk0
  have HE := Lib.hid (hE.later (below_alloc (Below.refl w.heap.size w) (.cells #[.int .i64 0, .int .i64 0, .int .u64 0] 37)))
  have HI := Lib.hid hi
  clear hE hi ev
  go_enter Tryd.func21, Tryd.ntmps21
  go_wp2_with fail
  refine (at_val_out A _ c i _ er et HE.out HI.out).mono ?_
  rintro e w1 ⟨rfl, hb⟩
  obtain ⟨c0, c1, c2, g0, g1, g2, hz⟩ := res3 hb
  replace hb := below_next (below_alloc (Below.refl w.heap.size w) _) hb
  unfold errV
  go_wp2
  exact bodyPost_ret (v := .tuple #[.agg #[.int .i64 0, .int .i64 0, .int .u64 0], errV er]) (by simp [results, Tryd.results21, go_sem, c0, c1, c2, errV]) rfl ⟨rfl, by repeat (first | exact hb | refine below_set ?_ _ _)⟩
theorem read_in (i : Nat) (x : Val) (w : World) (L : Lay) (S : St) (h : Rep w L S) (hx : S.places[i]? = some x) : Calls Tryd.prog 21 #[.pointer (some ⟨L.b, 0, none⟩), .int .i64 i] w (Ret w (.tuple #[.agg #[.int .i64 x.t, .int .i64 x.n, .int .u64 x.b], .nilIface])) := by
  have hi : i < S.places.length := (List.getElem?_eq_some_iff.1 hx).1
  obtain ⟨g, c, ev, eb, hn, hm, hg, hcell, hfree⟩ := h.places.mid (by omega)
  have hq := vcells_at hx
  have k0 := hcell _ _ hq.1
  have k1 := hcell _ _ hq.2.1
  have k2 := hcell _ _ hq.2.2
  have f1 := h.fields.1
  rw [ev] at f1
  have hlt := blk_lt h.blk0
  clear hx eb ev hfree hcell hq
  go_enter Tryd.func21, Tryd.ntmps21
  go_wp2_with fail
  refine (at_val_in g _ c i _ hi (by omega)).mono ?_
  rintro e w1 ⟨rfl, rfl⟩
  go_wp2
  exact bodyPost_ret (v := .tuple #[.agg #[.int .i64 x.t, .int .i64 x.n, .int .u64 x.b], .nilIface]) (by simp [results, Tryd.results21, go_sem]) rfl ⟨rfl, by repeat (first | exact Below.refl _ _ | refine below_set ?_ _ _ | refine below_alloc ?_ _)⟩
theorem write_out (i : Int) (v : Val) (w : World) (L : Lay) (S : St) (h : Rep w L S) (er et : Addr) (hE : Errs w er et) (hi : Out i S.places.length) : Calls Tryd.prog 20 #[.pointer (some ⟨L.b, 0, none⟩), .int .i64 i, .agg #[.int .i64 v.t, .int .i64 v.n, .int .u64 v.b]] w (Ret w (errV er)) := by
  obtain ⟨A, c, ev, _⟩ := h.places.form
  have f1 := h.fields.1
  rw [ev] at f1
  have hlt := blk_lt h.blk0
  have HE := Lib.hid (hE.later (below_alloc (Below.refl w.heap.size w) (.cells #[.int .i64 v.t, .int .i64 v.n, .int .u64 v.b] 37)))
  have HI := Lib.hid hi
  clear hE hi ev
  go_enter Tryd.func20, Tryd.ntmps20
  go_wp2_with fail
  refine (at_val_out A _ c i _ er et HE.out HI.out).mono ?_
  rintro e w1 ⟨rfl, hb⟩
  replace hb := below_next (below_alloc (Below.refl w.heap.size w) _) hb
  unfold errV
  go_wp2_with fail
  go_ret
  exact ⟨rfl, hb⟩
theorem write_bad (i : Nat) (x v : Val) (w : World) (L : Lay) (S : St) (h : Rep w L S) (er et : Addr) (hE : Errs w er et) (hx : S.places[i]? = some x) (hv : v.good = false ∨ v.t ≠ x.t) : Calls Tryd.prog 20 #[.pointer (some ⟨L.b, 0, none⟩), .int .i64 i, .agg #[.int .i64 v.t, .int .i64 v.n, .int .u64 v.b]] w (Ret w (errV et)) := by
  have hi : i < S.places.length := (List.getElem?_eq_some_iff.1 hx).1
  obtain ⟨g, c, ev, eb, hn, hm, hg, hcell, hfree⟩ := h.places.mid (by omega)
  have hq := vcells_at hx
  have k0 := hcell _ _ hq.1
  have f1 := h.fields.1
  rw [ev] at f1
  have hlt := blk_lt h.blk0
  have HV := Lib.hid hv
  have HE := Lib.hid (hE.later (below_alloc (Below.refl w.heap.size w) (.cells #[.int .i64 v.t, .int .i64 v.n, .int .u64 v.b] 37)))
  clear hx eb ev hfree hcell hq hv hE
  go_enter Tryd.func20, Tryd.ntmps20
  go_wp2_with fail
  refine (at_val_in g _ c i _ hi (by omega)).mono ?_
  rintro e w1 ⟨rfl, rfl⟩
  go_wp2_with fail
  go_region_with (go_at_call 36; refine (of_bad v.t v.n v.b x.t _ er et (by first | exact HE.out | exact HE.out.later (below_drew0 _)) HV.out).mono ?_; rintro e w2 ⟨rfl, hb⟩)
  all_goals
    replace hb := below_next (below_drew1 (below_alloc (Below.refl w.heap.size w) _)) hb
    unfold errV
    go_wp2
    go_ret
    exact ⟨rfl, hb⟩
theorem write_in (i : Nat) (x v : Val) (w : World) (L : Lay) (S : St) (h : Rep w L S) (hx : S.places[i]? = some x) (hv : v.good = true) (ht : v.t = x.t) : Calls Tryd.prog 20 #[.pointer (some ⟨L.b, 0, none⟩), .int .i64 i, .agg #[.int .i64 v.t, .int .i64 v.n, .int .u64 v.b]] w (RetS w L { S with places := S.places.set i v } .nilIface) := by
  have hi : i < S.places.length := (List.getElem?_eq_some_iff.1 hx).1
  obtain ⟨g, c, ev, eb, hn, hm, hg, hcell, hfree⟩ := h.places.mid (by omega)
  have hq := vcells_at hx
  rw [← ht] at hq
  have k0 := hcell _ _ hq.1
  have k1 := hcell _ _ hq.2.1
  have k2 := hcell _ _ hq.2.2
  have p0 := hfree (i * 3)
  have p1 := hfree (i * 3 + 1)
  have p2 := hfree (i * 3 + 2)
  have f1 := h.fields.1
  rw [ev] at f1
  have hlt := blk_lt h.blk0
  have HV := Lib.hid hv
  have fin : ∀ w2, Below w.heap.size w w2 → Stp w L { S with places := S.places.set i v } (((w2.setCell ⟨g, i * 3, none⟩ (.int .i64 v.t)).setCell ⟨g, i * 3 + 1, none⟩ (.int .i64 v.n)).setCell ⟨g, i * 3 + 2, none⟩ (.int .u64 v.b)) := by
    intro w2 hb
    refine Stp.same ((h.later hb).place ev eb i hi v) ?_
    have hm : g ∈ L.fp := Lay.mem.2 (.inr (.inl (by rw [eb]; simp)))
    exact ((((Kept.ofBelow hb _).set _ _ (.inl hm)).set _ _ (.inl hm)).set _ _ (.inl hm))
  have FIN := Lib.hid fin
  clear hx eb ev hfree hcell hq hv ht fin
  go_enter Tryd.func20, Tryd.ntmps20
  go_wp2_with fail
  refine (at_val_in g _ c i _ hi (by omega)).mono ?_
  rintro e w1 ⟨rfl, rfl⟩
  go_wp2_with fail
  go_region_with (go_at_call 36; refine (of_ok v.t v.n v.b _ HV.out).mono ?_; rintro e w2 ⟨rfl, hb⟩)
  all_goals
    have q := res3d (b := .int .i64 v.n) ⟨hb.size, hb.block⟩
    obtain ⟨c0, c1, c2, g0, g1, g2, hz⟩ := q
    replace hb := below_next (below_drew1 (below_alloc (Below.refl w.heap.size w) _)) hb
    replace k0 := cell_below hb hg k0
    replace k1 := cell_below hb hg k1
    replace k2 := cell_below hb hg k2
    replace p0 := (hb.frozen (p := ⟨g, i * 3, none⟩) hg).trans p0
    replace p1 := (hb.frozen (p := ⟨g, i * 3 + 1, none⟩) hg).trans p1
    replace p2 := (hb.frozen (p := ⟨g, i * 3 + 2, none⟩) hg).trans p2
    go_wp2
    go_ret
    exact ⟨rfl, FIN.out _ hb⟩
end Go.Proofs.YtmalbdoneghnmaaDoor
