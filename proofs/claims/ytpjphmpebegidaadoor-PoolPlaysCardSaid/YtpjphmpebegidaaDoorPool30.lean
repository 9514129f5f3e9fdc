/-
  The model's calls side by side with the pool; one call on an arena and its model.
-/
import Derived.Test.YtpjphmpebegidaaDoorPool29
namespace Go.Proofs.YtpjphmpebegidaaDoor
open Go.RowKit Go.Stk
attribute [local go_sem ↓] Go.wp_at_zero Go.wp_at_succ

def MoP (w0 : World) (rv0 : Value) (H0 : List MRun) (w : World) (L : PLay) (S : PS) (p n : Nat) (rv : Value) (H : List MRun) (a' : Ar) (ws' : List Int) (v : Value) (e : Ending) (w' : World) : Prop :=
  e = .returned v ∧ ∃ rv' H', Bo w0 rv0 H0 w' L S p n rv' H' ∧ ZM a' ws' H' ∧ Kept (mfp p rv H) w w'
def WordP (w : World) (a : Ar) (H : List MRun) (q : Int) (e : Ending) (w' : World) : Prop := Below w.heap.size w w' ∧
  ((∃ (k : Nat) (r : MRun) (j : Nat), H[k]? = some r ∧ e = .returned (.tuple #[.int .i64 k, .int .i64 j, .bool true]) ∧ j < 16 * r.m ∧ wordR a q = some (a.off * 16 + r.f * 16 + j)) ∨
   (wordR a q = none ∧ e = .returned (.tuple #[.int .i64 0, .int .i64 0, .bool false])))
section
variable {w0 w : World} {rv0 rv : Value} {H0 H : List MRun} {L : PLay} {S : PS} {p : Nat} {a : Ar} (h : Bo w0 rv0 H0 w L S p a.n rv H)
include h
theorem Bo.bl {B : World} (hB : Below B.heap.size B w0) (hfp : ∀ g ∈ L.fp ++ mfp p rv0 H0, B.heap.size ≤ g) : Below B.heap.size B w := hB.trans (h.kept.below hfp hB.size)
theorem Bo.post {w' : World} {v : Value} {H' : List MRun} {e : Ending} (hm : MPost w p a.n rv H v H' e w') : e = .returned v ∧ ∃ rv', Bo w0 rv0 H0 w' L S p a.n rv' H' ∧ Kept (mfp p rv H) w w' := by
  obtain ⟨h1, rv', h2, h3, h4⟩ := hm
  exact ⟨h1, rv', h.model h2 h3 h4, h3⟩
variable {ws : List Int} (z : ZM a ws H) (hn : a.n ≤ 256)
include z hn
theorem bo_malloc (v : Int) : Calls Tryd.prog 36 #[.pointer (some ⟨p, 0, none⟩), .int .i64 v] w (MoP w0 rv0 H0 w L S p a.n rv H (allocR a v).2 ws (.tuple #[.int .i64 (allocR a v).1.1, .int .i64 (numOf (allocR a v).1.2)])) := by
  refine (malloc_any h.m hn (z.len hn) (z.rg2 hn) a.taken z.ok.lt (fun x hx => z.takenIs x hx) v).mono ?_
  rintro e w' (⟨h1, rfl, hb⟩ | ⟨h1, hf, rfl, hb⟩ | ⟨f, b, h1, hf, hm⟩)
  · have e : allocR a v = ((0, 1), a) := by simp [allocR, h1]
    rw [e]
    exact ⟨rfl, rv, H, h.later hb, z, (Kept.ofBelow hb []).mono (by simp)⟩
  · have e : allocR a v = ((0, 14), a) := by simp [allocR, show ¬ v < 1 by omega, hf]
    rw [e]
    exact ⟨rfl, rv, H, h.later hb, z, (Kept.ofBelow hb []).mono (by simp)⟩
  · have e : allocR a v = ((((f * 16 : Nat) : Int), 0), { a with runs := a.runs.set f (needOf v : Int), taken := rng a.taken f (f + needOf v) true }) := by simp [allocR, show ¬ v < 1 by omega, hf]
    rw [e]
    obtain ⟨h2, rv', h3, h4⟩ := h.post hm
    refine ⟨by rw [h2, show ((f * 16 : Nat) : Int) = 16 * (f : Int) by omega]; rfl, rv', _, h3, z.alloc (b := b) (firstF_some hf).1 (by unfold needOf; omega), h4⟩
theorem bo_mfree (q : Int) : Calls Tryd.prog 37 #[.pointer (some ⟨p, 0, none⟩), .int .i64 q] w (MoP w0 rv0 H0 w L S p a.n rv H (freeR a ws q).2.1 (freeR a ws q).2.2 (.int .i64 (numOf (freeR a ws q).1))) := by
  refine (mfree_any h.m (z.len hn) (z.rg2 hn) q).mono ?_
  rintro e w' (⟨k, r, hk, hq, hm⟩ | ⟨hno, hb, rfl⟩)
  · have e : freeR a ws q = (0, { a with runs := a.runs.set r.f 0, taken := rng a.taken r.f (r.f + r.m) false }, rng ws (a.off * 16 + r.f * 16) (a.off * 16 + r.f * 16 + r.m * 16) 0) := by simp [freeR, z.runIn (List.mem_of_getElem? hk) hq]
    rw [e]
    obtain ⟨h2, rv', h3, h4⟩ := h.post hm
    exact ⟨h2, rv', _, h3, z.drop hk, h4⟩
  · have e : freeR a ws q = (8, a, ws) := by simp [freeR, z.runOut hno]
    rw [e]
    exact ⟨rfl, rv, H, h.later hb, z, (Kept.ofBelow hb []).mono (by simp)⟩
theorem bo_word (q : Int) : Calls Tryd.prog 38 #[.pointer (some ⟨p, 0, none⟩), .int .i64 q] w (WordP w a H q) := by
  refine (word_any h.m (z.len hn) (z.rg2 hn) q).mono ?_
  rintro e w' ⟨hb, ⟨k, r, hk, h1, h2, rfl⟩ | ⟨hno, rfl⟩⟩
  · refine ⟨hb, .inl ⟨k, r, (q - 16 * (r.f : Int)).toNat, hk, ?_, by omega, z.wordIn (List.mem_of_getElem? hk) h1 h2⟩⟩
    rw [show (((q - 16 * (r.f : Int)).toNat : Nat) : Int) = q - 16 * (r.f : Int) by omega]
  · exact ⟨hb, .inr ⟨z.wordOut hno, rfl⟩⟩
theorem bo_mused : Calls Tryd.prog 30 #[.pointer (some ⟨p, 0, none⟩)] w (Ret w (.int .i64 (trues a.taken : Nat))) := by
  rw [z.sum]
  exact mused_any h.m (z.len hn) (z.sumLe hn)
end
set_option maxRecDepth 100000 in
set_option maxHeartbeats 4000000 in
theorem do_any {B w0 w : World} {rv0 rv : Value} {H0 H : List MRun} {L : PLay} {S : PS} {p i : Nat} {a : Ar} {l : AL} (h : Bo w0 rv0 H0 w L S p a.n rv H) (ha : S.ars[i]? = some a) (hl : L.als[i]? = some l) (z : ZM a S.words H) (hn : a.n ≤ 256)
    (hB : Below B.heap.size B w0) (hfp : ∀ g ∈ L.fp ++ mfp p rv0 H0, B.heap.size ≤ g) (ads : List Addr) (hS : Sent B 94 errGs ads) (er en ea : Addr) (hE : Errs B er en ea) (h0 : ads[0]? = some er) (h7 : ads[7]? = some en) (h13 : ads[13]? = some ea)
    (o : Op4) (ht : o.t ≤ 9223372036854775807) (hv : o.v ≤ 9223372036854775807) :
    Calls Tryd.prog 29 #[.pointer (some ⟨l.ab, 0, none⟩), .pointer (some ⟨p, 0, none⟩), .agg #[.int .i64 o.k, .int .i64 o.a, .int .i64 o.t, .int .i64 o.v]] w
      (fun e w' => e = .returned (.bool true) ∧ ∃ rv' H', Bo w0 rv0 H0 w' L { S with ars := S.ars.set i (doR a S.words o).2.1, words := (doR a S.words o).2.2 } p a.n rv' H' ∧ ZM (doR a S.words o).2.1 (doR a S.words o).2.2 H') := by
  obtain ⟨k, a', t, v⟩ := o
  simp only at ht hv
  have hb : Below w.heap.size w (w.alloc (.cells #[.int .i64 k, .int .i64 a', .int .i64 t, .int .i64 v] 47)) := below_alloc (Below.refl _ _) _
  have HB := Lib.hid (h.later hb)
  have HX1 := Lib.hid (show w.heap.size ∉ L.fp from fun hx => by have := h.rep.lt _ (PLay.mem.1 hx); omega)
  have HX2 := Lib.hid (show w.heap.size ∉ mfp p rv H from fun hx => by have := h.m.lt _ hx; omega)
  have HE := Lib.hid (fun (W : World) (hW : Below B.heap.size B W) => hE.later hW)
  have HS := Lib.hid (fun (W : World) (hW : Below B.heap.size B W) => hS.later hW)
  have HBB := Lib.hid hB
  have HFP := Lib.hid hfp
  have HA := Lib.hid ha
  have HL := Lib.hid hl
  have HZ := Lib.hid z
  have HOK := Lib.hid z.ok.ok
  clear h ha hl hE hS hb z hB hfp
  by_cases k1 : k = 1
  · subst k1
    rw [show doR a S.words ⟨1, a', t, v⟩ = ((allocR a v).1, (allocR a v).2, S.words) from rfl]
    go_enter Tryd.func29, Tryd.ntmps29
    go_wp2_with fail
    refine (alloc_all HB.out.rep HA.out HL.out v hv er en ea (HE.out _ (HB.out.bl HBB.out HFP.out))).mono ?_
    rintro e w1 ⟨rfl, h2, h3⟩
    have c3 := h3.cell (a := ⟨w.heap.size, 3, none⟩) (v := .int .i64 v) (by rw [blk_cell (blk_new w _)]; rfl) HX1.out
    have HB1 := Lib.hid (HB.out.pool h2 h3)
    clear h2 h3
    go_wp2_with fail
    refine (bo_malloc HB1.out HZ.out hn v).mono ?_
    rintro e w2 ⟨rfl, rv', H', hB2, hz2, _⟩
    have HB2 := Lib.hid hB2
    have HZ2 := Lib.hid hz2
    clear hB2 hz2
    obtain ⟨⟨⟨x, c⟩, a2⟩, hR⟩ : ∃ R, allocR a v = R := ⟨_, rfl⟩
    rw [hR] at HB1 HB2 HZ2 ⊢
    have HRQ := Lib.hid hR
    clear hR
    go_wp2_with fail
    refine (num_ev w2 ads (HS.out _ (HB2.out.bl HBB.out HFP.out)) er en ea h0 h7 h13 c).mono ?_
    rintro e w3 ⟨rfl, hb3⟩
    go_wp2_with fail
    go_ret
    rw [HRQ.out]
    exact ⟨rfl, rv', H', HB2.out.later hb3, HZ2.out⟩
  have d1 : (k == 1) = false := by simpa using k1
  by_cases k2 : k = 2
  · subst k2
    rw [show doR a S.words ⟨2, a', t, v⟩ = ((0, (freeR a S.words t).1), (freeR a S.words t).2) from rfl]
    obtain ⟨⟨c, a2, ws2⟩, hR⟩ : ∃ R, freeR a S.words t = R := ⟨_, rfl⟩
    have HRQ := Lib.hid hR
    clear hR
    have c2 : (w.alloc (.cells #[.int .i64 2, .int .i64 a', .int .i64 t, .int .i64 v] 47)).cell? ⟨w.heap.size, 2, none⟩ = some (.int .i64 t) := by rw [blk_cell (blk_new w _)]; rfl
    have c0 : (w.alloc (.cells #[.int .i64 2, .int .i64 a', .int .i64 t, .int .i64 v] 47)).cell? ⟨w.heap.size, 0, none⟩ = some (.int .i64 2) := by rw [blk_cell (blk_new w _)]; rfl
    obtain ⟨wA, hwA⟩ : ∃ W, w.alloc (.cells #[.int .i64 2, .int .i64 a', .int .i64 t, .int .i64 v] 47) = W := ⟨_, rfl⟩
    rw [hwA] at HB c2 c0
    have HF1 := Lib.hid (fun (W : World) (hW : Below wA.heap.size wA W) => free_all (HB.out.later hW).rep HA.out HL.out HOK.out t ht er en ea (HE.out _ ((HB.out.later hW).bl HBB.out HFP.out)))
    rw [HRQ.out] at HF1
    go_enter Tryd.func29, Tryd.ntmps29
    go_wp2_with fail
    clear hwA
    go_region_with (first
      | (go_at_call 15; ((with_reducible refine (HF1.out _ (by repeat (first | exact Below.refl _ _ | refine below_alloc ?_ _ | refine below_drew1 ?_ | refine below_drewN1 ?_ _))).mono ?_); rintro e w5 ⟨rfl, h52, h53⟩; have c5 := h53.cell (cell_later (by repeat (first | exact Below.refl _ _ | refine below_alloc ?_ _ | refine below_drew1 ?_ | refine below_drewN1 ?_ _)) c2) HX1.out; have HP5 := Lib.hid ((HB.out.later (by repeat (first | exact Below.refl _ _ | refine below_alloc ?_ _ | refine below_drew1 ?_ | refine below_drewN1 ?_ _))).pool h52 h53); clear h52 h53))
      | (go_at_call 37; ((with_reducible refine (bo_mfree (HP5.out.later (by repeat (first | exact Below.refl _ _ | refine below_alloc ?_ _ | refine below_drew1 ?_ | refine below_drewN1 ?_ _))) HZ.out hn t).mono ?_); rw [HRQ.out]; rintro e w6 ⟨rfl, rv', H', hB6, hz6, hk6⟩; have c6 := hk6.cell (cell_later (by repeat (first | exact Below.refl _ _ | refine below_alloc ?_ _ | refine below_drew1 ?_ | refine below_drewN1 ?_ _)) c5) HX2.out; have HFN := Lib.hid hB6; have HZ6 := Lib.hid hz6; clear hB6 hz6 hk6))
      | (go_at_call 17; ((with_reducible refine (num_ev _ ads (HS.out _ (Bo.bl (HP5.out.later (by repeat (first | exact Below.refl _ _ | refine below_alloc ?_ _ | refine below_drew1 ?_ | refine below_drewN1 ?_ _))) HBB.out HFP.out)) er en ea h0 h7 h13 c).mono ?_); rintro e w7 ⟨rfl, hb7⟩; replace c5 := cell_later hb7 (cell_later (by repeat (first | exact Below.refl _ _ | refine below_alloc ?_ _ | refine below_drew1 ?_ | refine below_drewN1 ?_ _)) c5); replace HP5 := Lib.hid ((HP5.out.later (by repeat (first | exact Below.refl _ _ | refine below_alloc ?_ _ | refine below_drew1 ?_ | refine below_drewN1 ?_ _))).later hb7))))
    all_goals
      go_wp2_with fail
      go_ret
      rw [HRQ.out]
      exact ⟨rfl, rv', H', HFN.out.later (by repeat (first | exact Below.refl _ _ | refine below_alloc ?_ _ | refine below_drew1 ?_ | refine below_drewN1 ?_ _)), HZ6.out⟩
  have d2 : (k == 2) = false := by simpa using k2
  by_cases k3 : k = 3
  · subst k3
    rw [show doR a S.words ⟨3, a', t, v⟩ = (getR a S.words t, a, S.words) from rfl]
    rw [set_same HA.out]
    obtain ⟨A, c, rfl, hnc, hcm, _, _⟩ := HB.out.m.row.form
    have HI := Lib.hid (bo_word HB.out HZ.out hn t)
    have HL256 := HZ.out.len hn
    go_enter Tryd.func29, Tryd.ntmps29
    go_wp2_with fail
    refine HI.out.mono ?_
    rintro e w1 ⟨hb1, ⟨i2, r, j, hr, rfl, hj, hw⟩ | ⟨hw, rfl⟩⟩
    · have c0 := cell_later hb1 (show (w.alloc (.cells #[.int .i64 3, .int .i64 a', .int .i64 t, .int .i64 v] 47)).cell? ⟨w.heap.size, 0, none⟩ = some (.int .i64 3) by rw [blk_cell (blk_new w _)]; rfl)
      have c2 := cell_later hb1 (show (w.alloc (.cells #[.int .i64 3, .int .i64 a', .int .i64 t, .int .i64 v] 47)).cell? ⟨w.heap.size, 2, none⟩ = some (.int .i64 t) by rw [blk_cell (blk_new w _)]; rfl)
      have HB1 := Lib.hid (HB.out.later hb1)
      have hrm := List.mem_of_getElem? hr
      obtain ⟨m0, mf, ml⟩ := HZ.out.rg r hrm
      obtain ⟨x, hx⟩ : ∃ x, r.ws[j]? = some x := ⟨_, List.getElem?_eq_getElem (by omega)⟩
      have hg : getR a S.words t = (x, 0) := by
        have := HZ.out.held r hrm j hj
        rw [hx] at this
        simp [getR, hw, this]
      have HG := Lib.hid (get_all HB1.out.rep HA.out HL.out t ht er en ea (HE.out _ (HB1.out.bl HBB.out HFP.out)))
      rw [hg] at HG
      have HR := Lib.hid hr
      have HX := Lib.hid hx
      have HRM := Lib.hid hrm
      have hil : i2 < H.length := (List.getElem?_eq_some_iff.1 hr).1
      have mf2 : r.m ≤ 256 := by omega
      clear hb1 hr hw hx hg hrm HI mf ml
      go_wp2_with fail
      refine HG.out.mono ?_
      rintro e w2 ⟨rfl, hb2⟩
      have HB2 := Lib.hid (HB1.out.later hb2)
      obtain ⟨g, rfl, _, _, q2⟩ := HB2.out.m.cat HR.out
      obtain ⟨_, p1, _, _, _⟩ := HB2.out.m.hc
      have q3 : w2.cell? ⟨r.b, j, none⟩ = some (.int .i64 x) := by rw [blk_cell (HB2.out.m.words r HRM.out)]; exact ints_at HX.out
      rw [show ev er en ea 0 = .nilIface from rfl]
      clear hb2 HG c0 c2
      go_wp2_with fail
      go_ret
      exact ⟨rfl, _, H, HB2.out, HZ.out⟩
    · have c0 := cell_later hb1 (show (w.alloc (.cells #[.int .i64 3, .int .i64 a', .int .i64 t, .int .i64 v] 47)).cell? ⟨w.heap.size, 0, none⟩ = some (.int .i64 3) by rw [blk_cell (blk_new w _)]; rfl)
      have c2 := cell_later hb1 (show (w.alloc (.cells #[.int .i64 3, .int .i64 a', .int .i64 t, .int .i64 v] 47)).cell? ⟨w.heap.size, 2, none⟩ = some (.int .i64 t) by rw [blk_cell (blk_new w _)]; rfl)
      have HB1 := Lib.hid (HB.out.later hb1)
      have hg : getR a S.words t = (0, 1) := by simp [getR, hw]
      have HG := Lib.hid (get_all HB1.out.rep HA.out HL.out t ht er en ea (HE.out _ (HB1.out.bl HBB.out HFP.out)))
      rw [hg] at HG
      clear hb1 hw hg HI
      go_wp2_with fail
      refine HG.out.mono ?_
      rintro e w2 ⟨rfl, hb2⟩
      have HB2 := Lib.hid (HB1.out.later hb2)
      clear hb2 HG c0 c2
      go_wp2_with fail
      refine (num_ev w2 ads (HS.out _ (HB2.out.bl HBB.out HFP.out)) er en ea h0 h7 h13 1).mono ?_
      rw [show numOf 1 = 1 from rfl]
      rintro e w3 ⟨rfl, hb3⟩
      go_wp2_with fail
      go_ret
      exact ⟨rfl, _, H, HB2.out.later hb3, HZ.out⟩
  have d3 : (k == 3) = false := by simpa using k3
  by_cases k4 : k = 4
  · subst k4
    rw [show doR a S.words ⟨4, a', t, v⟩ = ((0, (setR a S.words t v).1), a, (setR a S.words t v).2) from rfl]
    obtain ⟨A, c, rfl, hnc, hcm, _, _⟩ := HB.out.m.row.form
    have HI := Lib.hid (bo_word HB.out HZ.out hn t)
    have HL256 := HZ.out.len hn
    have c0 : (w.alloc (.cells #[.int .i64 4, .int .i64 a', .int .i64 t, .int .i64 v] 47)).cell? ⟨w.heap.size, 0, none⟩ = some (.int .i64 4) := by rw [blk_cell (blk_new w _)]; rfl
    have c2 : (w.alloc (.cells #[.int .i64 4, .int .i64 a', .int .i64 t, .int .i64 v] 47)).cell? ⟨w.heap.size, 2, none⟩ = some (.int .i64 t) := by rw [blk_cell (blk_new w _)]; rfl
    have c3 : (w.alloc (.cells #[.int .i64 4, .int .i64 a', .int .i64 t, .int .i64 v] 47)).cell? ⟨w.heap.size, 3, none⟩ = some (.int .i64 v) := by rw [blk_cell (blk_new w _)]; rfl
    go_enter Tryd.func29, Tryd.ntmps29
    go_wp2_with fail
    refine HI.out.mono ?_
    rintro e w1 ⟨hb1, ⟨i2, r, j, hr, rfl, hj, hw⟩ | ⟨hw, rfl⟩⟩
    · replace c0 := cell_later hb1 c0
      replace c2 := cell_later hb1 c2
      replace c3 := cell_later hb1 c3
      have HB1 := Lib.hid (HB.out.later hb1)
      have hrm := List.mem_of_getElem? hr
      obtain ⟨m0, mf, ml⟩ := HZ.out.rg r hrm
      have hg : setR a S.words t v = (0, S.words.set (a.off * 16 + r.f * 16 + j) v) := by simp [setR, hw]
      have HG := Lib.hid (set_all HB1.out.rep HA.out HL.out t v ht er en ea (HE.out _ (HB1.out.bl HBB.out HFP.out)))
      rw [hg] at HG
      have hzs := HZ.out.set hr hj v
      have HGQ := Lib.hid hg
      have HZS := Lib.hid hzs
      have HR := Lib.hid hr
      have HRM := Lib.hid hrm
      have hil : i2 < H.length := (List.getElem?_eq_some_iff.1 hr).1
      have mf2 : r.m ≤ 256 := by omega
      have HJ := Lib.hid (show j < r.ws.length by omega)
      clear hb1 hr hw hg hrm HI mf ml hzs
      go_wp2_with fail
      refine HG.out.mono ?_
      rintro e w2 ⟨rfl, h2, h3⟩
      have HB2 := Lib.hid (HB1.out.pool h2 h3)
      have q0 := h3.cell c0 HX1.out
      have q5 := h3.cell c3 HX1.out
      obtain ⟨g, rfl, _, _, q2⟩ := HB2.out.m.cat HR.out
      obtain ⟨_, p1, _, _, _⟩ := HB2.out.m.hc
      have hwb := HB2.out.m.words r HRM.out
      obtain ⟨x, hx⟩ : ∃ x, r.ws[j]? = some x := ⟨_, List.getElem?_eq_getElem HJ.out⟩
      have q3 : w2.cell? ⟨r.b, j, none⟩ = some (.int .i64 x) := by rw [blk_cell hwb]; exact ints_at hx
      have q4 := blk_free hwb j
      rw [show ev er en ea 0 = .nilIface from rfl]
      clear h2 h3 HG c0 c2 c3 hwb hx
      go_wp2_with fail
      go_region
      all_goals
        go_wp2_with fail
        go_ret
        rw [HGQ.out]
        first
          | exact ⟨rfl, _, _, HB2.out.setw HR.out j v, HZS.out⟩
          | exact ⟨rfl, _, _, (HB2.out.later (by repeat (first | exact Below.refl _ _ | refine below_alloc ?_ _ | refine below_drew1 ?_ | refine below_drewN1 ?_ _))).setw HR.out j v, HZS.out⟩
          | exact ⟨rfl, _, _, (HB2.out.setw HR.out j v).later (by repeat (first | exact Below.refl _ _ | refine below_alloc ?_ _ | refine below_drew1 ?_ | refine below_drewN1 ?_ _)), HZS.out⟩
    · replace c0 := cell_later hb1 c0
      replace c2 := cell_later hb1 c2
      replace c3 := cell_later hb1 c3
      have HB1 := Lib.hid (HB.out.later hb1)
      have hg : setR a S.words t v = (1, S.words) := by simp [setR, hw]
      have HGQ := Lib.hid hg
      have HG := Lib.hid (set_all HB1.out.rep HA.out HL.out t v ht er en ea (HE.out _ (HB1.out.bl HBB.out HFP.out)))
      rw [hg] at HG
      clear hb1 hw hg HI
      go_wp2_with fail
      refine HG.out.mono ?_
      rintro e w2 ⟨rfl, h2, h3⟩
      have HB2 := Lib.hid (HB1.out.pool h2 h3)
      rw [show ev er en ea 1 = errV er from rfl]
      unfold errV
      clear h2 h3 HG c0 c2 c3
      go_wp2_with fail
      refine (num_ev w2 ads (HS.out _ (HB2.out.bl HBB.out HFP.out)) er en ea h0 h7 h13 1).mono ?_
      rw [show numOf 1 = 1 from rfl]
      rintro e w3 ⟨rfl, hb3⟩
      go_wp2_with fail
      go_ret
      rw [HGQ.out]
      exact ⟨rfl, _, H, HB2.out.later hb3, HZ.out⟩
  have d4 : (k == 4) = false := by simpa using k4
  by_cases k5 : k = 5
  · subst k5
    rw [show doR a S.words ⟨5, a', t, v⟩ = ((0, 0), ⟨a.off, a.n, List.replicate a.n 0, List.replicate a.n false⟩, rng S.words (a.off * 16) (a.off * 16 + a.n * 16) 0) from rfl]
    go_enter Tryd.func29, Tryd.ntmps29
    go_wp2_with fail
    refine (clear_any HB.out.rep HA.out HL.out).mono ?_
    rintro e w1 ⟨rfl, h2, h3⟩
    have HB1 := Lib.hid (HB.out.pool h2 h3)
    obtain ⟨_, p1, _, p3, _⟩ := HB1.out.m.hc
    clear h2 h3
    go_wp2_with fail
    go_ret
    exact ⟨rfl, _, [], HB1.out.nil, HZ.out.clear⟩
  have d5 : (k == 5) = false := by simpa using k5
  rw [show doR a S.words ⟨k, a', t, v⟩ = ((0, 0), a, S.words) by simp [doR, k1, k2, k3, k4, k5]]
  rw [set_same HA.out]
  go_enter Tryd.func29, Tryd.ntmps29
  go_wp2_with fail
  go_ret
  exact ⟨rfl, rv, H, HB.out, HZ.out⟩
end Go.Proofs.YtpjphmpebegidaaDoor
