/-
  What goroutines share: a value received.
-/
import Derived.Test.YtmalbdoneghnmaaDoorSync4
import Derived.Test.YtmalbdoneghnmaaDoorClone11
namespace Go.Proofs.YtmalbdoneghnmaaDoor
open Go.RowKit Go.Stk
attribute [local go_sem ↓] Go.wp_at_zero Go.wp_at_succ

theorem recv_out (i : Int) (w : World) (L : Lay) (S : St) (h : Rep w L S) (er et : Addr) (hE : Errs w er et) (hi : Out i S.chans.length) : Calls Tryd.prog 12 #[.pointer (some ⟨L.b, 0, none⟩), .int .i64 i] w (Ret w (.tuple #[.agg #[.int .i64 0, .int .i64 0, .int .u64 0], .bool false, errV er])) := by
  obtain ⟨A, c, ev, _⟩ := h.chans.form
  have f1 := h.fields.2.2.1
  rw [ev] at f1
  have hlt := blk_lt h.blk0
  have HE := Lib.hid (hE.later (below_alloc (Below.refl w.heap.size w) (.cells #[.int .i64 0, .int .i64 0, .int .u64 0] 37)))
  have HI := Lib.hid hi
  clear hE hi ev
  go_enter Tryd.func12, Tryd.ntmps12
  go_wp2_with fail
  refine (at_queue_out A _ c i _ er et HE.out HI.out).mono ?_
  rintro e w1 ⟨rfl, hb⟩
  obtain ⟨c0, c1, c2, g0, g1, g2, hz⟩ := res3 hb
  replace hb := below_next (below_alloc (Below.refl w.heap.size w) _) hb
  unfold errV
  go_wp2
  exact bodyPost_ret (v := .tuple #[.agg #[.int .i64 0, .int .i64 0, .int .u64 0], .bool false, errV er]) (by simp [results, Tryd.results12, go_sem, c0, c1, c2, errV]) rfl ⟨rfl, by repeat (first | exact hb | refine below_set ?_ _ _)⟩
theorem recv_none (i : Nat) (x : Ch) (w : World) (L : Lay) (S : St) (h : Rep w L S) (hx : S.chans[i]? = some x) (h0 : x.held = []) : Calls Tryd.prog 12 #[.pointer (some ⟨L.b, 0, none⟩), .int .i64 i] w (Ret w (.tuple #[.agg #[.int .i64 0, .int .i64 0, .int .u64 0], .bool false, .nilIface])) := by
  have hi : i < S.chans.length := (List.getElem?_eq_some_iff.1 hx).1
  have hi2 : i < L.hs.length := by rw [h.hlen]; exact hi
  obtain ⟨g, c, ev, eb, hn, hm, hg, hcell, hfree⟩ := h.chans.mid (by omega)
  have hw : L.hs[i]? = some L.hs[i] := List.getElem?_eq_getElem hi2
  obtain ⟨A2, c2, ev2, hc2, hm2, _, _⟩ := (h.held i x _ hx hw).form
  have hq := qcells_at hx hw
  rw [ev2, h0] at hq
  have k2 := hcell _ _ hq.2.2
  have f1 := h.fields.2.2.1
  rw [ev] at f1
  have hlt := blk_lt h.blk0
  clear hx eb ev hfree hcell hq hw ev2 h0
  go_enter Tryd.func12, Tryd.ntmps12
  go_wp2_with fail
  refine (at_queue_in g _ c i _ hi (by omega)).mono ?_
  rintro e w1 ⟨rfl, rfl⟩
  go_wp2
  exact bodyPost_ret (v := .tuple #[.agg #[.int .i64 0, .int .i64 0, .int .u64 0], .bool false, .nilIface]) (by simp [results, Tryd.results12, go_sem]) rfl ⟨rfl, by repeat (first | exact Below.refl _ _ | refine below_set ?_ _ _ | refine below_alloc ?_ _)⟩
/-- The tail of a row reads so. -/
theorem tail_src {w : World} {T : TypeId} {g n c : Nat} {v : Val} {l : List Val} (h : Row w T 3 (.slice (some ⟨g, 0, none⟩) (n + 1) c) (n + 1) (vcells (v :: l))) (hl : l.length = n) (h1 : 1 < c) (h8 : n ≤ 1000) : Src w (some ⟨g, 3, none⟩) n (c - 1) 3 (vcells l) := by
  have hlen : (vcells l).length = n * 3 := by unfold vcells; rw [flat_len cells_len, hl]
  obtain ⟨g', c', e, _, hc, _, _, hcell, _⟩ := h.mid (by omega)
  injection e with e1 e2 e3
  injection e1 with e1
  injection e1 with e1
  subst e1 e3
  refine ⟨hlen, by simp, by omega, ⟨by simp only [maxLen]; omega, fun hp => ⟨g, 3, rfl, fun j hj => ?_⟩⟩, ?_⟩
  · refine hcell (3 + j) _ ?_
    show (v.cells ++ vcells l)[3 + j]? = _
    rw [List.getElem?_append_right (by simp [Val.cells]), show 3 + j - v.cells.length = j by simp [Val.cells]]
    exact List.getElem?_eq_getElem hj
  · intro u hu
    simp only [vcells, List.mem_flatMap, Val.cells] at hu
    obtain ⟨a, _, hu⟩ := hu
    simp at hu
    rcases hu with rfl | rfl | rfl <;> rfl
/-- .. and a box of the call's own written behind it. -/
theorem Rep.chanBox {w : World} {L : Lay} {S : St} (h : Rep w L S) {g n c : Nat} (hv : L.vc = .slice (some ⟨g, 0, none⟩) n c) (hg : blk L.vc = [g]) (i : Nat) (x : Ch) (v : Value) (hx : S.chans[i]? = some x) (hi : L.hs[i]? = some v)
    {w2 w1 : World} (hb : Below w.heap.size w w2) (hb1 : Below w2.heap.size w2 w1) (u : Value) (xs : List Val) (hr : Row w1 37 3 u xs.length (vcells xs)) (hu : ∀ g ∈ blk u, w2.heap.size ≤ g)
    {w4 : World} {n0 : Nat} (h0 : w.heap.size ≤ n0) (h1 : n0 < w2.heap.size) (hk4 : Kept [n0] (w1.setCell ⟨g, i * 3 + 2, none⟩ u) w4) :
    Stp w L { S with chans := S.chans.set i { x with held := xs } } w4 := by
  have hk : Kept (blk v) w w1 := Kept.ofBelow (below_next hb hb1) _
  have hu2 : ∀ g ∈ blk u, g ∈ blk v ∨ w.heap.size ≤ g := fun b hbm => .inr (Nat.le_trans hb.size (hu b hbm))
  have hrep := h.chan hv hg i x v hx hi hk u xs hr hu2
  have hlt := h.lt
  have hne : ∀ b, ({ L with hs := L.hs.set i u } : Lay).own b → b ∉ [n0] := by
    intro b hbm
    simp
    rcases Lay.own_set hbm with h2 | h2
    · have := hlt b h2; omega
    · have := hu b h2; omega
  refine ⟨_, hrep.kept hk4 hne, rfl, fun j hj => ?_, ?_⟩
  · rcases Lay.own_set hj with h2 | h2
    · exact .inl h2
    · exact .inr (Nat.le_trans hb.size (hu j h2))
  · obtain ⟨_, _, _, _, hkk⟩ := h.chanStp hv hg i x v hx hi hk u xs hr hu2
    exact hkk.trans hk4 (by simp; omega)
set_option maxRecDepth 100000 in
set_option maxHeartbeats 2000000 in
theorem recv_ok (i : Nat) (x : Ch) (v : Val) (l : List Val) (w : World) (L : Lay) (S : St) (h : Rep w L S) (hx : S.chans[i]? = some x) (h0 : x.held = v :: l) (h8 : l.length ≤ 1000) : Calls Tryd.prog 12 #[.pointer (some ⟨L.b, 0, none⟩), .int .i64 i] w (RetS w L { S with chans := S.chans.set i { x with held := l } } (.tuple #[.agg #[.int .i64 v.t, .int .i64 v.n, .int .u64 v.b], .bool true, .nilIface])) := by
  have hi : i < S.chans.length := (List.getElem?_eq_some_iff.1 hx).1
  have hi2 : i < L.hs.length := by rw [h.hlen]; exact hi
  obtain ⟨g, c, ev, eb, hn, hm, hg, hcell, hfree⟩ := h.chans.mid (by omega)
  obtain ⟨u, hu⟩ : ∃ u, u = L.hs[i] := ⟨_, rfl⟩
  have hw : L.hs[i]? = some u := by rw [hu]; exact List.getElem?_eq_getElem hi2
  have hrow := h.held i x _ hx hw
  rw [h0] at hrow
  have hq := qcells_at hx hw
  obtain ⟨g2, cp, ev2, _, hc2, hm2, hg2, hcell2, _⟩ := hrow.mid (by simp)
  rw [ev2] at hq hrow
  simp only [List.length_cons] at hq hrow hc2
  have k2 := hcell _ _ hq.2.2
  have p2 := hfree (i * 3 + 2)
  have d0 := hcell2 0 (.int .i64 v.t) rfl
  have d1 := hcell2 1 (.int .i64 v.n) rfl
  have d2 := hcell2 2 (.int .u64 v.b) rfl
  have hl : (l.length : Int) ≤ 1000 := by omega
  have f1 := h.fields.2.2.1
  rw [ev] at f1
  have hlt := blk_lt h.blk0
  have fin : ∀ w2 w3 v1 w4 n0, Below w.heap.size w w2 → Below w2.heap.size w2 w3 → Row w3 37 3 v1 l.length (vcells l) → (∀ b ∈ blk v1, w2.heap.size ≤ b) → w.heap.size ≤ n0 → n0 < w2.heap.size → Kept [n0] (w3.setCell ⟨g, i * 3 + 2, none⟩ v1) w4 → Stp w L { S with chans := S.chans.set i { x with held := l } } w4 :=
    fun w2 w3 v1 w4 n0 hb hb1 hr2 hb2 hl0 hl1 hk4 => h.chanBox ev eb i x u hx hw hb hb1 v1 l hr2 hb2 hl0 hl1 hk4
  have FIN := Lib.hid fin
  by_cases hc1 : 1 < cp
  · have HS := Lib.hid (tail_src hrow rfl hc1 h8)
    clear hx eb ev hfree hcell hq hw fin hu hrow hc2 hm2 hcell2 ev2 h0
    go_enter Tryd.func12, Tryd.ntmps12
    go_wp2_with fail
    refine (at_queue_in g _ c i _ hi (by omega)).mono ?_
    rintro e w1 ⟨rfl, rfl⟩
    go_wp2_with fail
    refine (clone_val (some ⟨g2, 3, none⟩) l.length (cp - 1) (vcells l) _ (HS.out.later (below_alloc (below_alloc (Below.refl _ _) _) _)) (by omega)).mono ?_
    rintro e w1 ⟨A3, c3, rfl, hr3, hb3, hb⟩
    obtain ⟨a0, a1, a2, y0, y1, y2, za⟩ := blk3 (blk_later hb (blk_alloc (blk_new w _) _))
    obtain ⟨b0, b1, b2, x0, x1, x2, zb⟩ := blk3 (blk_later hb (blk_new2 w _ _))
    have HBW := Lib.hid (below_alloc (below_alloc (Below.refl w.heap.size w) (.cells #[.int .i64 0, .int .i64 0, .int .u64 0] 37)) (.cells #[.int .i64 v.t, .int .i64 v.n, .int .u64 v.b] 37))
    have HB := Lib.hid hb
    replace hb := below_next HBW.out hb
    replace k2 := cell_below hb hg k2
    replace p2 := (hb.frozen (p := ⟨g, i * 3 + 2, none⟩) hg).trans p2
    have HR3 := Lib.hid hr3
    have HB3 := Lib.hid hb3
    clear hr3 hb3
    have hg1 := Nat.lt_of_lt_of_le hg hb.size
    go_wp2
    exact bodyPost_ret (v := .tuple #[.agg #[.int .i64 v.t, .int .i64 v.n, .int .u64 v.b], .bool true, .nilIface]) (by simp [results, Tryd.results12, go_sem, a0, a1, a2]) rfl
      ⟨rfl, FIN.out _ _ _ _ w.heap.size HBW.out HB.out HR3.out HB3.out (Nat.le_refl _) (by simp; omega) ((((Kept.refl _ _).set _ _ (.inl (by simp))).set _ _ (.inl (by simp))).set _ _ (.inl (by simp)))⟩
  · obtain rfl : cp = 1 := by omega
    have hl0 : l = [] := List.eq_nil_of_length_eq_zero (by omega)
    subst hl0
    have HS := Lib.hid (⟨by simp [vcells], by simp, by omega, ⟨by simp [vcells], by simp [vcells]⟩, by simp [vcells]⟩ : Src w (some ⟨g2, 0, none⟩) 0 0 3 (vcells []))
    clear hx eb ev hfree hcell hq hw fin hu hrow hc2 hm2 hcell2 ev2 h0
    go_enter Tryd.func12, Tryd.ntmps12
    go_wp2_with fail
    refine (at_queue_in g _ c i _ hi (by omega)).mono ?_
    rintro e w1 ⟨rfl, rfl⟩
    go_wp2_with fail
    refine (clone_val (some ⟨g2, 0, none⟩) 0 0 (vcells []) _ (HS.out.later (below_alloc (below_alloc (Below.refl _ _) _) _)) (by omega)).mono ?_
    rintro e w1 ⟨A3, c3, rfl, hr3, hb3, hb⟩
    obtain ⟨a0, a1, a2, y0, y1, y2, za⟩ := blk3 (blk_later hb (blk_alloc (blk_new w _) _))
    obtain ⟨b0, b1, b2, x0, x1, x2, zb⟩ := blk3 (blk_later hb (blk_new2 w _ _))
    have HBW := Lib.hid (below_alloc (below_alloc (Below.refl w.heap.size w) (.cells #[.int .i64 0, .int .i64 0, .int .u64 0] 37)) (.cells #[.int .i64 v.t, .int .i64 v.n, .int .u64 v.b] 37))
    have HB := Lib.hid hb
    replace hb := below_next HBW.out hb
    replace k2 := cell_below hb hg k2
    replace p2 := (hb.frozen (p := ⟨g, i * 3 + 2, none⟩) hg).trans p2
    have HR3 := Lib.hid hr3
    have HB3 := Lib.hid hb3
    clear hr3 hb3
    have hg1 := Nat.lt_of_lt_of_le hg hb.size
    go_wp2
    exact bodyPost_ret (v := .tuple #[.agg #[.int .i64 v.t, .int .i64 v.n, .int .u64 v.b], .bool true, .nilIface]) (by simp [results, Tryd.results12, go_sem, a0, a1, a2]) rfl
      ⟨rfl, FIN.out _ _ _ _ w.heap.size HBW.out HB.out HR3.out HB3.out (Nat.le_refl _) (by simp; omega) ((((Kept.refl _ _).set _ _ (.inl (by simp))).set _ _ (.inl (by simp))).set _ _ (.inl (by simp)))⟩
end Go.Proofs.YtmalbdoneghnmaaDoor
