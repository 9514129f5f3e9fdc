/-
  The model's arena turned: Free, Alloc.
-/
import Derived.Test.YtpjphmpebegidaaDoorPool25
import Derived.Test.YtpjphmpebegidaaDoorPool17
namespace Go.Proofs.YtpjphmpebegidaaDoor
open Go.RowKit Go.Stk
attribute [local go_sem ↓] Go.wp_at_zero Go.wp_at_succ

theorem infoRun : (Tryd.prog.info? 60).map (fun i => (i.zero, i.size, i.bytes)) = some (some (.agg #[.int .i64 0, .int .i64 0, .slice none 0 0]), 3, 40) := by kernel_rfl
theorem blk_nodup (v : Value) : (blk v).Nodup := by
  unfold blk
  split <;> simp
theorem mfp_nodup (p : Nat) (rv : Value) (H : List MRun) : (mfp p rv H).Nodup ↔ p ∉ blk rv ∧ p ∉ H.map MRun.b ∧ (H.map MRun.b).Nodup ∧ ∀ g ∈ blk rv, g ∉ H.map MRun.b := by
  unfold mfp
  rw [List.nodup_cons, List.nodup_append, List.mem_append]
  constructor
  · rintro ⟨h1, _, h2, h3⟩
    exact ⟨fun h => h1 (.inl h), fun h => h1 (.inr h), h2, fun g hg hg2 => h3 g hg g hg2 rfl⟩
  · rintro ⟨h1, h2, h3, h4⟩
    exact ⟨fun h => h.elim h1 h2, blk_nodup rv, h3, fun a ha b hb e => h4 a ha (e ▸ hb)⟩
/-- What a call makes of the model: the runs, the blocks. -/
def MPost (w : World) (p n : Nat) (rv : Value) (H : List MRun) (v : Value) (H' : List MRun) (e : Ending) (w' : World) : Prop :=
  e = .returned v ∧ ∃ rv', MRep w' p n rv' H' ∧ Kept (mfp p rv H) w w' ∧ ∀ g ∈ mfp p rv' H', g ∈ mfp p rv H ∨ w.heap.size ≤ g
section
variable {w : World} {p n : Nat} {rv : Value} {H : List MRun} (h : MRep w p n rv H)
include h
theorem MRep.nd' : p ∉ blk rv ∧ p ∉ H.map MRun.b ∧ (H.map MRun.b).Nodup ∧ ∀ g ∈ blk rv, g ∉ H.map MRun.b := (mfp_nodup p rv H).1 h.nd
theorem MRep.put {w1 : World} (hk : Kept (blk rv) w w1) {rv' : Value} {H' : List MRun} (hrow : Row w1 60 3 rv' H'.length (mcells H')) (hw : ∀ r ∈ H', w1.heap[r.b]? = some (.cells (ints r.ws).toArray 3 (0, 0)))
    (hnd : (mfp p rv' H').Nodup) (hg : ∀ g ∈ mfp p rv' H', g ∈ mfp p rv H ∨ w.heap.size ≤ g) (v : Value) : MPost w p n rv H v H' (.returned v) (w1.setCell ⟨p, 1, none⟩ rv') := by
  obtain ⟨n1, n2, _, _⟩ := h.nd'
  obtain ⟨m1, m2, _, _⟩ := (mfp_nodup p rv' H').1 hnd
  have hp1 := hk.heap h.hd n1
  have hks : Kept [p] w1 (w1.setCell ⟨p, 1, none⟩ rv') := (Kept.refl _ _).set _ _ (by simp)
  refine ⟨rfl, rv', ⟨?_, hrow.kept hks fun g hg hx => ?_, fun r hr => hks.heap (hw r hr) fun hx => ?_, hnd⟩, (hk.mono fun g hg => by simp [mfp, hg]).trans hks (by simp [mfp]), hg⟩
  · have := blk_set hp1 1 rv'
    rw [this]; rfl
  · simp at hx; exact m1 (hx ▸ hg)
  · simp at hx; exact m2 (by rw [← hx]; exact List.mem_map.2 ⟨r, hr, rfl⟩)
end
theorem MPost.base {w w1 w2 : World} {p n : Nat} {rv v : Value} {H H' : List MRun} {e : Ending} (h : MPost w1 p n rv H v H' e w2) (hb : Below w.heap.size w w1) : MPost w p n rv H v H' e w2 := by
  obtain ⟨he, rv', h1, h2, h3⟩ := h
  exact ⟨he, rv', h1, ((Kept.ofBelow hb []).mono (by simp)).trans h2 fun i hi => .inl hi, fun g hg => (h3 g hg).imp_right fun hx => Nat.le_trans hb.size hx⟩
theorem keep_new {w1 WA w8 : World} {v1 : Value} {fp : List Nat} (hbx : Below w1.heap.size w1 WA) (hk8 : Kept fp WA w8) (hf : fp = []) (hb8 : ∀ g ∈ blk v1, g ∈ fp ∨ WA.heap.size ≤ g) : Kept [] w1 w8 ∧ ∀ g ∈ blk v1, w1.heap.size ≤ g := by
  subst hf
  exact ⟨(Kept.ofBelow hbx []).trans hk8 (by simp), fun g hg => (hb8 g hg).elim (by simp) fun h => Nat.le_trans hbx.size h⟩
theorem keep_two {w1 w8 w9 : World} {v1 v2 : Value} (h : Kept [] w1 w8 ∧ ∀ g ∈ blk v1, w1.heap.size ≤ g) (hk9 : Kept (blk v1) w8 w9) (hb9 : ∀ g ∈ blk v2, g ∈ blk v1 ∨ w8.heap.size ≤ g) : Kept [] w1 w9 ∧ ∀ g ∈ blk v2, w1.heap.size ≤ g :=
  ⟨h.1.trans hk9 fun i hi => .inr (h.2 i hi), fun g hg => (hb9 g hg).elim (h.2 g) fun h2 => Nat.le_trans h.1.size h2⟩
theorem MRep.cut {w w9 : World} {p n k : Nat} {rv rv' : Value} {H : List MRun} (h : MRep w p n rv H) (hK : Kept [] w w9 ∧ ∀ g ∈ blk rv', w.heap.size ≤ g) {N : Nat} {cells : List Value} (hrow : Row w9 60 3 rv' N cells) (hN : N = (H.eraseIdx k).length) (hc : cells = mcells (H.eraseIdx k)) (v : Value) : MPost w p n rv H v (H.eraseIdx k) (.returned v) (w9.setCell ⟨p, 1, none⟩ rv') := by
  subst hN hc
  obtain ⟨n1, n2, n3, n4⟩ := h.nd'
  have hlt := h.lt
  refine h.put (hK.1.mono (by simp)) hrow (fun r hr => hK.1.heap (h.words r (List.mem_of_mem_eraseIdx hr)) (by simp)) ((mfp_nodup _ _ _).2 ⟨fun hx => ?_, fun hx => n2 ?_, ?_, fun g hg hx => ?_⟩) (fun g hg => ?_) v
  · have := hK.2 p hx
    have := hlt p (by simp [mfp])
    omega
  · obtain ⟨r, hr, e⟩ := List.mem_map.1 hx
    exact List.mem_map.2 ⟨r, List.mem_of_mem_eraseIdx hr, e⟩
  · exact n3.sublist ((List.eraseIdx_sublist H k).map _)
  · obtain ⟨r, hr, rfl⟩ := List.mem_map.1 hx
    have := hK.2 _ hg
    have := hlt r.b (by simp only [mfp, List.mem_cons, List.mem_append, List.mem_map]; exact .inr (.inr ⟨r, List.mem_of_mem_eraseIdx hr, rfl⟩))
    omega
  · simp only [mfp, List.mem_cons, List.mem_append, List.mem_map] at hg ⊢
    rcases hg with rfl | hg | ⟨r, hr, rfl⟩
    · exact .inl (.inl rfl)
    · exact .inr (hK.2 g hg)
    · exact .inl (.inr (.inr ⟨r, List.mem_of_mem_eraseIdx hr, rfl⟩))
def FreeR (w : World) (p n : Nat) (rv : Value) (H : List MRun) (q : Int) (e : Ending) (w' : World) : Prop :=
  (∃ (k : Nat) (r : MRun), H[k]? = some r ∧ 16 * (r.f : Int) = q ∧ MPost w p n rv H (.int .i64 0) (H.eraseIdx k) e w') ∨ ((∀ r ∈ H, 16 * (r.f : Int) ≠ q) ∧ Below w.heap.size w w' ∧ e = .returned (.int .i64 8))
theorem mcells_take (H : List MRun) (k : Nat) : (mcells H).take (k * 3) = mcells (H.take k) := flat_take (f := MRun.cells) (k := 3) (fun _ => rfl) H k
theorem mcells_drop (H : List MRun) (k : Nat) : (mcells H).drop (k * 3) = mcells (H.drop k) := flat_drop (f := MRun.cells) (k := 3) (fun _ => rfl) H k
theorem mcells_append (H K : List MRun) : mcells (H ++ K) = mcells H ++ mcells K := by simp [mcells]
theorem mcells_one (H : List MRun) : ∀ u ∈ mcells H, u.oneCell' = true := by
  intro u hu
  obtain ⟨r, _, hr⟩ := List.mem_flatMap.1 hu
  simp [MRun.cells] at hr
  rcases hr with rfl | rfl | rfl <;> rfl
theorem MRep.rd {w : World} {p n c : Nat} {A : Option Addr} {H : List MRun} (h : MRep w p n (.slice A H.length c) H) (h0 : 0 < H.length) (hH : H.length ≤ 256) : Rd w A (mcells H) := by
  obtain ⟨g, cap, ev, _, hc, hm, _, hcell, _⟩ := h.row.mid h0
  injection ev with e1 _ _
  have := mcells_len H
  refine ⟨by simp only [maxLen]; omega, fun hl => ⟨g, 0, e1, fun j hj => ?_⟩⟩
  rw [Nat.zero_add]
  exact hcell j _ (List.getElem?_eq_getElem hj)
theorem rd_drop3 {w : World} {g cv n : Nat} {cs : List Value} (h : Rd w (some ⟨g, 0, none⟩) cs) (k : Nat) (hcv : n ≤ cv) (hn : cs.length = n * 3) : Rd w (if cv = k then some ⟨g, 0, none⟩ else some ⟨g, k * 3, none⟩) (cs.drop (k * 3)) := by
  refine ⟨by have := h.1; simp; omega, fun hl => ?_⟩
  simp at hl
  rw [if_neg (by omega)]
  obtain ⟨b, off, e, hc⟩ := h.2 (by omega)
  simp at e
  obtain ⟨rfl, rfl⟩ := e
  refine ⟨g, k * 3, rfl, fun j hj => ?_⟩
  simp at hj
  have h1 := hc (k * 3 + j) (by omega)
  simp only [Nat.zero_add] at h1
  rw [h1]
  simp
set_option maxRecDepth 100000 in
set_option maxHeartbeats 2000000 in
theorem mfree_any {w : World} {p n : Nat} {rv : Value} {H : List MRun} (h : MRep w p n rv H) (hH : H.length ≤ 256) (hrg : ∀ r ∈ H, r.f + r.m ≤ 256) (q : Int) : Calls Tryd.prog 37 #[.pointer (some ⟨p, 0, none⟩), .int .i64 q] w (FreeR w p n rv H q) := by
  obtain ⟨A, c, rfl, hnc, hcm, hnil, hxl⟩ := h.row.form
  have HF := Lib.hid (find_any h hH hrg q)
  have HM := Lib.hid h
  clear h hrg hxl hnil
  go_enter Tryd.func37, Tryd.ntmps37
  go_wp2_with fail
  refine HF.out.mono ?_
  rintro e w1 ⟨hb1, ⟨k, r, hk, hq, rfl⟩ | ⟨hno, rfl⟩⟩
  · have HM1 := Lib.hid (HM.out.later hb1)
    obtain ⟨g, rfl, _, _, _⟩ := HM1.out.cat hk
    obtain ⟨_, p1, _, p3, p4⟩ := HM1.out.hc
    have hlt : k < H.length := (List.getElem?_eq_some_iff.1 hk).1
    have HK := Lib.hid hk
    have HB1 := Lib.hid hb1
    have HQ := Lib.hid hq
    clear HF hk hb1 hq
    go_wp2_with fail
    have q0 : ∀ (n : Nat) (cs : Array Value) (t : TypeId), ((w1.drewN n).alloc (.cells cs t)).cell? ⟨p, 1, none⟩ = some (.slice (some ⟨g, 0, none⟩) H.length c) := fun n cs t => cell_later (below_alloc (below_drewN0 _ _) _) p1
    have q1 : ∀ (cs : Array Value) (t : TypeId), (w1.alloc (.cells cs t)).cell? ⟨p, 1, none⟩ = some (.slice (some ⟨g, 0, none⟩) H.length c) := fun cs t => cell_later (below_alloc (Below.refl _ _) _) p1
    have wr1 : IntKind.i64.wrap ((k : Int) + 1) = ((k : Int) + 1) := IntWalk.i64_in _ (by omega)
    have k30 : (0 : Int) ≤ (k : Int) := by omega
    have k29 : (k : Int) ≤ (H.length : Int) := by omega
    have k32 : (0 : Int) ≤ ((k : Int) + 1) := by omega
    have k33 : ((k : Int) + 1) ≤ (H.length : Int) := by omega
    have k34 : (((k : Int) + 1) : Int).toNat = k + 1 := by omega
    have kcv : k ≤ c := by omega
    have RD0 := HM1.out.rd (by omega) hH
    have RD1 := Lib.hid (fun (W : World) (hb : Below w1.heap.size w1 W) => Rd.take (Rd.later RD0 hb) (k * 3))
    obtain ⟨AD, hAD⟩ : ∃ A : Option Addr, (if c = k + 1 then some ⟨g, 0, none⟩ else some ⟨g, (k + 1) * 3, none⟩) = A := ⟨_, rfl⟩
    have hADn : AD = none → c - (k + 1) = 0 := fun h => by rw [h] at hAD; split at hAD <;> cases hAD
    have HADN := Lib.hid hADn
    clear hADn
    have RD2 := Lib.hid (fun (W : World) (hb : Below w1.heap.size w1 W) => (hAD ▸ rd_drop3 (Rd.later RD0 hb) (k + 1) hnc (mcells_len H) : Rd W AD ((mcells H).drop ((k + 1) * 3))))
    have LE1 := Lib.hid (show ((mcells H).take (k * 3)).length = k * 3 by rw [List.length_take, mcells_len]; omega)
    have LE2 := Lib.hid (show ((mcells H).drop ((k + 1) * 3)).length = (H.length - (k + 1)) * 3 by rw [List.length_drop, mcells_len]; omega)
    have ON1 := Lib.hid (fun u (hu : u ∈ (mcells H).take (k * 3)) => mcells_one H u (List.mem_of_mem_take hu))
    have ON2 := Lib.hid (fun u (hu : u ∈ (mcells H).drop ((k + 1) * 3)) => mcells_one H u (List.mem_of_mem_drop hu))
    have cle : H.length - (k + 1) ≤ c - (k + 1) := by omega
    clear RD0
    go_region_law (first
      | (refine step_append_row (by rfl) _ _ _ 60 _ 3 40 (by rfl) Tryd.underlying55 infoRun (by rfl) (by omega) (.slice (some ⟨w1.heap.size, 0, none⟩) 0 0) 0 [] (by rfl) (Row.empty _ _ _ _) (some ⟨g, 0, none⟩) k c ((mcells H).take (k * 3)) (by rfl) LE1.out (by intro h; cases h) kcv (RD1.out _ (by repeat (first | exact Below.refl _ _ | refine below_alloc ?_ _ | refine below_drew1 ?_ | refine below_drewN1 ?_ _))) ON1.out (by simp only [maxLen]; omega) (by omega) ?_; intro v1 w8 hrow8 hk8 hb8; have K8 := keep_new (w1 := w1) (by repeat (first | exact Below.refl _ _ | refine below_alloc ?_ _ | refine below_drew1 ?_ | refine below_drewN1 ?_ _)) hk8 rfl hb8; have q8 := K8.1.cell p1 (by simp))
      | (refine step_append_row (by rfl) _ _ _ 60 _ 3 40 (by rfl) Tryd.underlying55 infoRun (by rfl) (by omega) v1 (0 + k) ([] ++ (mcells H).take (k * 3)) (by rfl) hrow8 AD (H.length - (k + 1)) (c - (k + 1)) ((mcells H).drop ((k + 1) * 3)) (by rfl) LE2.out HADN.out cle (RD2.out _ (below_next (by repeat (first | exact Below.refl _ _ | refine below_alloc ?_ _ | refine below_drew1 ?_ | refine below_drewN1 ?_ _)) hk8.below0)) ON2.out (by simp only [maxLen]; omega) (by omega) ?_; intro v2 w9 hrow9 hk9 hb9; obtain ⟨A3, c3, rfl, _⟩ := hrow9.form; have K9 := keep_two K8 hk9 hb9; have q9 := K9.1.cell p1 (by simp); have z9 := (K9.1.frozen (a := ⟨p, 1, none⟩) p4 (by simp)).trans p3))
    all_goals
      have hel : 0 + k + (H.length - (k + 1)) = (H.eraseIdx k).length := by rw [List.length_eraseIdx, if_pos hlt]; omega
      have FIN := Lib.hid (HM1.out.cut (k := k) K9 hrow9 hel (by rw [List.eraseIdx_eq_take_drop_succ, mcells_append, ← mcells_take, ← mcells_drop]; rfl) (.int .i64 0))
      rw [Nat.zero_add] at FIN
      clear hrow9 hrow8 hk8 hk9 hb8 hb9 RD1 RD2 LE1 LE2 ON1 ON2 K8 K9
      go_wp2_with fail
      go_ret
      exact .inl ⟨k, r, HK.out, HQ.out, FIN.out.base HB1.out⟩
  · go_wp2_with fail
    go_ret
    exact .inr ⟨hno, hb1, rfl⟩
end Go.Proofs.YtpjphmpebegidaaDoor
