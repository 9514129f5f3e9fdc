/-
  What goroutines share: a value sent.
-/
import Derived.Test.YtmalbdoneghnmaaDoorSync3
import Derived.Deep.RegionLaw
namespace Go.Proofs.YtmalbdoneghnmaaDoor
open Go.RowKit Go.Stk
attribute [local go_sem ↓] Go.wp_at_zero Go.wp_at_succ

theorem infoVal : (Tryd.prog.info? 37).map (fun i => (i.zero, i.size, i.bytes)) = some (some (.agg #[.int .i64 0, .int .i64 0, .int .u64 0]), 3, 24) := by kernel_rfl
theorem rd_blk {w : World} {b : Nat} {cs : List Value} {T : TypeId} (h : w.heap[b]? = some (.cells cs.toArray T (0, 0))) (hl : cs.length ≤ maxLen) : Rd w (some ⟨b, 0, none⟩) cs :=
  ⟨hl, fun _ => ⟨b, 0, rfl, fun j hj => by rw [blk_cell h]; simp [hj]⟩⟩
theorem vcells_snoc (l : List Val) (v : Val) : vcells l ++ [.int .i64 v.t, .int .i64 v.n, .int .u64 v.b] = vcells (l ++ [v]) := by simp [vcells, Val.cells]

theorem send_out (i : Int) (v : Val) (w : World) (L : Lay) (S : St) (h : Rep w L S) (er et : Addr) (hE : Errs w er et) (hi : Out i S.chans.length) : Calls Tryd.prog 10 #[.pointer (some ⟨L.b, 0, none⟩), .int .i64 i, .agg #[.int .i64 v.t, .int .i64 v.n, .int .u64 v.b]] w (Ret w (.tuple #[.bool false, errV er])) := by
  obtain ⟨A, c, ev, _⟩ := h.chans.form
  have f1 := h.fields.2.2.1
  rw [ev] at f1
  have hlt := blk_lt h.blk0
  have HE := Lib.hid (hE.later (below_alloc (Below.refl w.heap.size w) (.cells #[.int .i64 v.t, .int .i64 v.n, .int .u64 v.b] 37)))
  have HI := Lib.hid hi
  clear hE hi ev
  go_enter Tryd.func10, Tryd.ntmps10
  go_wp2_with fail
  refine (at_queue_out A _ c i _ er et HE.out HI.out).mono ?_
  rintro e w1 ⟨rfl, hb⟩
  replace hb := below_next (below_alloc (Below.refl w.heap.size w) _) hb
  unfold errV
  go_wp2_with fail
  go_quiet (fail)
  go_wp2_with fail
  go_ret2
  exact ⟨rfl, below_next hb (below_drewN0 _ _)⟩
set_option maxHeartbeats 2000000 in
theorem send_bad (i : Nat) (x : Ch) (v : Val) (w : World) (L : Lay) (S : St) (h : Rep w L S) (er et : Addr) (hE : Errs w er et) (hx : S.chans[i]? = some x) (hv : v.good = false ∨ v.t ≠ x.t) : Calls Tryd.prog 10 #[.pointer (some ⟨L.b, 0, none⟩), .int .i64 i, .agg #[.int .i64 v.t, .int .i64 v.n, .int .u64 v.b]] w (Ret w (.tuple #[.bool false, errV et])) := by
  have hi : i < S.chans.length := (List.getElem?_eq_some_iff.1 hx).1
  have hi2 : i < L.hs.length := by rw [h.hlen]; exact hi
  obtain ⟨g, c, ev, eb, hn, hm, hg, hcell, hfree⟩ := h.chans.mid (by omega)
  have hw : L.hs[i]? = some L.hs[i] := List.getElem?_eq_getElem hi2
  have hq := qcells_at hx hw
  have k0 := hcell _ _ hq.1
  have f1 := h.fields.2.2.1
  rw [ev] at f1
  have hlt := blk_lt h.blk0
  have HV := Lib.hid hv
  have HE := Lib.hid (hE.later (below_alloc (Below.refl w.heap.size w) (.cells #[.int .i64 v.t, .int .i64 v.n, .int .u64 v.b] 37)))
  clear hx eb ev hfree hcell hq hv hE hw
  go_enter Tryd.func10, Tryd.ntmps10
  go_wp2_with fail
  refine (at_queue_in g _ c i _ hi (by omega)).mono ?_
  rintro e w1 ⟨rfl, rfl⟩
  go_wp2_with fail
  go_region_with (go_at_call 36; refine (of_bad v.t v.n v.b x.t _ er et (by first | exact HE.out | exact HE.out.later (below_drew0 _)) HV.out).mono ?_; rintro e w2 ⟨rfl, hb⟩)
  all_goals
    replace hb := below_next (below_drew1 (below_alloc (Below.refl w.heap.size w) _)) hb
    unfold errV
    go_wp2_with fail
    go_simp
    go_quiet (fail)
    go_wp2_with fail
    go_ret2
    exact ⟨rfl, below_next hb (below_drewN0 _ _)⟩
set_option maxHeartbeats 2000000 in
theorem send_full (i : Nat) (x : Ch) (v : Val) (w : World) (L : Lay) (S : St) (h : Rep w L S) (hx : S.chans[i]? = some x) (hv : v.good = true) (ht : v.t = x.t) (hr : x.room ≤ x.held.length) : Calls Tryd.prog 10 #[.pointer (some ⟨L.b, 0, none⟩), .int .i64 i, .agg #[.int .i64 v.t, .int .i64 v.n, .int .u64 v.b]] w (Ret w (.tuple #[.bool false, .nilIface])) := by
  have hi : i < S.chans.length := (List.getElem?_eq_some_iff.1 hx).1
  have hi2 : i < L.hs.length := by rw [h.hlen]; exact hi
  obtain ⟨g, c, ev, eb, hn, hm, hg, hcell, hfree⟩ := h.chans.mid (by omega)
  have hw : L.hs[i]? = some L.hs[i] := List.getElem?_eq_getElem hi2
  obtain ⟨A2, c2, ev2, hc2, hm2, _, _⟩ := (h.held i x _ hx hw).form
  have hq := qcells_at hx hw
  rw [ev2, ← ht] at hq
  have k0 := hcell _ _ hq.1
  have k1 := hcell _ _ hq.2.1
  have k2 := hcell _ _ hq.2.2
  have hl : (x.held.length : Int) ≤ 9223372036854775807 := by simp only [maxLen] at hm2; omega
  have hd : decide (x.room ≤ (x.held.length : Int)) = true := decide_eq_true hr
  have f1 := h.fields.2.2.1
  rw [ev] at f1
  have hlt := blk_lt h.blk0
  have HV := Lib.hid hv
  clear hx eb ev hfree hcell hq hv hw ht hr ev2
  go_enter Tryd.func10, Tryd.ntmps10
  go_wp2_with fail
  refine (at_queue_in g _ c i _ hi (by omega)).mono ?_
  rintro e w1 ⟨rfl, rfl⟩
  go_wp2_with fail
  go_region_with (go_at_call 36; refine (of_ok v.t v.n v.b _ HV.out).mono ?_; rintro e w2 ⟨rfl, hb⟩)
  all_goals
    replace hb := below_next (below_drew1 (below_alloc (Below.refl w.heap.size w) _)) hb
    replace k0 := cell_below hb hg k0
    replace k1 := cell_below hb hg k1
    replace k2 := cell_below hb hg k2
    go_wp2_with fail
    go_simp
    go_quiet (fail)
    go_wp2_with fail
    go_ret2
    exact ⟨rfl, below_next hb (below_drewN0 _ _)⟩
theorem frozen_late {w : World} {a : Addr} {c : Array Value} {t : TypeId} {n : Nat} (h : w.frozen? a = false) : ((w.drewN n).alloc (.cells c t)).frozen? a = false := by
  rw [frozen?_alloc_cells]; exact h
theorem keep_sent {w w2 w3 : World} {B g i : Nat} {a b c d : Value} {fp : List Nat} (hk : Kept fp w2 w3) (h0 : w2.cell? ⟨B, 0, none⟩ = some a) (h1 : w2.cell? ⟨B, 1, none⟩ = some b) (h2 : w2.cell? ⟨B, 2, none⟩ = some c) (h3 : w2.cell? ⟨g, i, none⟩ = some d) 
    (hu : ∀ j ∈ fp, j < w.heap.size) (hg : g ∉ fp) (hB : w.heap.size ≤ B) : w3.cell? ⟨B, 0, none⟩ = some a ∧ w3.cell? ⟨B, 1, none⟩ = some b ∧ w3.cell? ⟨B, 2, none⟩ = some c ∧ w3.cell? ⟨g, i, none⟩ = some d := by
  have hn : B ∉ fp := fun hm => by have := hu B hm; omega
  exact ⟨hk.cell h0 hn, hk.cell h1 hn, hk.cell h2 hn, hk.cell h3 hg⟩
set_option maxHeartbeats 2000000 in
theorem send_ok (i : Nat) (x : Ch) (v : Val) (w : World) (L : Lay) (S : St) (h : Rep w L S) (hx : S.chans[i]? = some x) (hv : v.good = true) (ht : v.t = x.t) (hr : (x.held.length : Int) < x.room) (h8 : x.room ≤ 8) : Calls Tryd.prog 10 #[.pointer (some ⟨L.b, 0, none⟩), .int .i64 i, .agg #[.int .i64 v.t, .int .i64 v.n, .int .u64 v.b]] w (RetS w L { S with chans := S.chans.set i { x with held := x.held ++ [v] } } (.tuple #[.bool true, .nilIface])) := by
  have hi : i < S.chans.length := (List.getElem?_eq_some_iff.1 hx).1
  have hi2 : i < L.hs.length := by rw [h.hlen]; exact hi
  obtain ⟨g, c, ev, eb, hn, hm, hg, hcell, hfree⟩ := h.chans.mid (by omega)
  obtain ⟨u, hu⟩ : ∃ u, u = L.hs[i] := ⟨_, rfl⟩
  have hw : L.hs[i]? = some u := by rw [hu]; exact List.getElem?_eq_getElem hi2
  have hrow := h.held i x _ hx hw
  obtain ⟨A2, cp, ev2, hc2, hm2, _, _⟩ := hrow.form
  have hq := qcells_at hx hw
  rw [ev2, ← ht] at hq
  have k0 := hcell _ _ hq.1
  have k1 := hcell _ _ hq.2.1
  have k2 := hcell _ _ hq.2.2
  have p2 := hfree (i * 3 + 2)
  have hl : (x.held.length : Int) ≤ 9223372036854775807 := by simp only [maxLen] at hm2; omega
  have hd : decide (x.room ≤ (x.held.length : Int)) = false := decide_eq_false (by omega)
  have f1 := h.fields.2.2.1
  rw [ev] at f1
  have hlt := blk_lt h.blk0
  have HV := Lib.hid hv
  have hub : ∀ b ∈ blk u, b < w.heap.size := hrow.lt
  have hgu : g ∉ blk u := h.sep.ch u (List.mem_of_getElem? hw) g (by rw [eb]; simp)
  have hle : x.held.length ≤ 8 := by omega
  have fin : ∀ w2 w3 v1, Below w.heap.size w w2 → Kept (blk u) w2 w3 → Row w3 37 3 v1 (x.held.length + 1) (vcells (x.held ++ [v])) → (∀ b ∈ blk v1, b ∈ blk u ∨ w2.heap.size ≤ b) → Stp w L { S with chans := S.chans.set i { x with held := x.held ++ [v] } } (w3.setCell ⟨g, i * 3 + 2, none⟩ v1) := by
    intro w2 w3 v1 hb hk hr2 hb2
    refine h.chanStp ev eb i x u hx hw ((Kept.ofBelow hb (blk u)).trans hk (by exact fun a ha => .inl ha)) v1 (x.held ++ [v]) (by simpa using hr2) (fun b hbm => ?_)
    rcases hb2 b hbm with h1 | h1
    · exact .inl h1
    · exact .inr (Nat.le_trans hb.size h1)
  have FIN := Lib.hid fin
  have HU := Lib.hid hub
  have GU := Lib.hid hgu
  have EV2 := Lib.hid ev2
  have HROW := Lib.hid hrow
  have HC2 := Lib.hid hc2
  have HM2 := Lib.hid hm2
  clear hx eb ev hfree hcell hq hv hw ht hr ev2 fin hu hub hgu hrow hc2 hm2
  go_enter Tryd.func10, Tryd.ntmps10
  go_wp2_with fail
  refine (at_queue_in g _ c i _ hi (by omega)).mono ?_
  rintro e w1 ⟨rfl, rfl⟩
  go_wp2_with fail
  go_region_with (go_at_call 36; refine (of_ok v.t v.n v.b _ HV.out).mono ?_; rintro e w2 ⟨rfl, hb⟩)
  all_goals
    have q := res3d (b := .int .i64 v.n) ⟨hb.size, hb.block⟩
    obtain ⟨c0, c1, c2, g0, g1, g2, hz⟩ := q
    replace hb := below_next (below_drew1 (below_alloc (Below.refl w.heap.size w) _)) hb
    replace k0 := cell_below hb hg k0
    replace k1 := cell_below hb hg k1
    replace k2 := cell_below hb hg k2
    replace p2 := (hb.frozen (p := ⟨g, i * 3 + 2, none⟩) hg).trans p2
    have hg2 := Nat.lt_of_lt_of_le hg hb.size
    go_wp2_with fail
    go_simp
    go_quiet (fail)
    go_wp2_with fail
    have q0 : ∀ (n : Nat) (c : Array Value) (t : TypeId), ((w2.drewN n).alloc (.cells c t)).cell? ⟨g, i * 3 + 2, none⟩ = some (.slice A2 x.held.length cp) := fun n c t => cell_later (below_alloc (below_drewN0 _ _) _) k2
    go_region_law
      ((refine step_append_row (by rfl) _ _ _ 37 _ 3 24 (by rfl) Tryd.underlying68 infoVal (by rfl) (by omega) u x.held.length (vcells x.held) (by rw [EV2.out]; rfl) (HROW.out.kept (Kept.ofBelow (below_next hb (by first | exact below_alloc (below_drewN0 _ _) _ | exact below_alloc (below_drew0 _) _ | exact below_alloc (Below.refl _ _) _ | exact (below_alloc (Below.refl _ _) _).drew)) []) (by simp)) (some ⟨w2.heap.size, 0, none⟩) 1 1 [.int .i64 v.t, .int .i64 v.n, .int .u64 v.b] (by rfl) (by rfl) (by simp) (by omega) (rd_blk (T := 37) (by first | exact heap_alloc_new (w2.drewN _) _ | exact heap_alloc_new w2 _) (by simp [maxLen])) (by simp [Value.oneCell']) (by simp only [maxLen]; omega) (by omega) ?_; intro v1 w3 hrow3 hkk hb3; obtain ⟨A3, c3, rfl, _⟩ := hrow3.form; have q3 := hkk.cell (a := ⟨g, i * 3 + 2, none⟩) (cell_later (by first | exact below_alloc (below_drewN0 _ _) _ | exact below_alloc (below_drew0 _) _ | exact below_alloc (Below.refl _ _) _ | exact (below_alloc (Below.refl _ _) _).drew) k2) GU.out; have p3 := (hkk.frozen (a := ⟨g, i * 3 + 2, none⟩) (by simp; omega) GU.out).trans (frozen_late p2)))
    all_goals
      go_wp2
      go_ret2
      exact ⟨rfl, FIN.out _ _ _ (by refine below_next hb ?_; first | exact below_alloc (below_drewN0 _ _) _ | exact below_alloc (below_drew0 _) _ | exact below_alloc (Below.refl _ _) _ | exact (below_alloc (Below.refl _ _) _).drew) hkk (by rw [← vcells_snoc]; exact hrow3) hb3⟩
end Go.Proofs.YtmalbdoneghnmaaDoor
