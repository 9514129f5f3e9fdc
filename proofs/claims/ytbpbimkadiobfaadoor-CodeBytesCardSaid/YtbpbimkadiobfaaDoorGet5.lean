/-
  A code got of bytes: Get.
-/
import Derived.Test.YtbpbimkadiobfaaDoorGet4
namespace Go.Proofs.YtbpbimkadiobfaaDoor
open Go.RowKit Go.Stk
attribute [local go_sem ↓] Go.wp_at_zero Go.wp_at_succ

theorem fnsB_pf : ∀ (l m : List Fn) (last : Int) (k n : Nat), l.map Fn.pf = m.map Fn.pf → fnsB last k n l = fnsB last k n m
  | [], [], _, _, _, _ => rfl
  | [], _ :: _, _, _, _, h => by simp at h
  | _ :: _, [], _, _, _, h => by simp at h
  | f :: l, g :: m, last, k, n, h => by
    simp only [List.map_cons, List.cons.injEq] at h
    obtain ⟨h1, h2⟩ := h
    simp only [Fn.pf, Prod.mk.injEq] at h1
    obtain ⟨e1, e2, e3⟩ := h1
    rw [fnsB_step, fnsB_step, fnsB_pf l m _ _ _ h2, e1]
    unfold fnB
    rw [e1, e2, e3]
/-- The form doesn't hang on where a code lies. -/
theorem checkB_pl {c d : Co} (h : c.pl = d.pl) : checkB c = checkB d := by
  obtain ⟨_, _, p1, m1, a1, _, _, c1, _, _, f1, s1, _, _, b1⟩ := c
  obtain ⟨_, _, p2, m2, a2, _, _, c2, _, _, f2, s2, _, _, b2⟩ := d
  simp only [Co.pl, Pc.mk.injEq] at h
  obtain ⟨rfl, rfl, rfl, rfl, hf, rfl, rfl⟩ := h
  have hl : f1.length = f2.length := by have := congrArg List.length hf; simpa using this
  have h1 : (f1[s1.toNat]?).map Fn.pf = (f2[s1.toNat]?).map Fn.pf := by rw [← List.getElem?_map, ← List.getElem?_map, hf]
  have hins : ∀ (A1 A2 B1 B2 C1 C2 D1 D2 : Option Addr) (a1' a2' b1' b2' c1' c2' d1' d2' : Nat), insB ⟨A1, a1', p1, m1, a1, B1, b1', c1, C1, c1', f1, s1, D1, d1', b1⟩ = insB ⟨A2, a2', p1, m1, a1, B2, b2', c1, C2, c2', f2, s1, D2, d2', b1⟩ := by
    intros
    funext x
    unfold insB opB
    simp only [hl]
    rfl
  unfold checkB shapeB
  simp only [hl, fnsB_pf f1 f2 _ _ _ hf]
  rw [hins _ _ _ _ _ _ _ _ _ _ _ _ _ _ _ _]
  cases ha : f1[s1.toNat]? with
  | none => rw [ha] at h1; cases hb : f2[s1.toNat]? with
    | none => rfl
    | some y => rw [hb] at h1; cases h1
  | some x => rw [ha] at h1; cases hb : f2[s1.toNat]? with
    | none => rw [hb] at h1; cases h1
    | some y =>
      rw [hb] at h1
      simp only [Option.map_some, Option.some.injEq, Fn.pf, Prod.mk.injEq] at h1
      simp only
      rw [h1.2.1]
theorem kx_kept' {X : Nat → Prop} {N : Nat} {wB wr w' : World} {fp : List Nat} (h : KeptX (fun k => X k ∧ k < N) wB wr) (hk : Kept fp wr w') (hN : N ≤ wB.heap.size) (hX : ∀ j, X j → j ∉ fp) : KeptX (fun k => X k ∧ k < N) wB w' :=
  kx_kept h hk fun j hj => ⟨by omega, hX j hj.1⟩
/-- What Get answers. -/
def GetR (w : World) (l : List Int) (ec : Addr) (e : Ending) (w' : World) : Prop :=
  Below w.heap.size w w' ∧ ((∃ c : Co, parse l = some c.pl ∧ checkB c = true ∧ e = .returned (.tuple #[c.agg, .nilIface]) ∧ c.Rep w') ∨
    ((∀ c : Co, parse l = some c.pl → checkB c = false) ∧ e = .returned (.tuple #[.agg #[.slice none 0 0, .int .i64 0, .int .i64 0, .slice none 0 0, .slice none 0 0, .int .i64 0, .slice none 0 0], errV ec])))
set_option maxRecDepth 100000 in
set_option maxHeartbeats 4000000 in
theorem getC_any (l : List Int) (hB : Byt l) (hm : l.length ≤ 1000000) (g off cp : Nat) (w : World) (hr : Rs w (some ⟨g, off, none⟩) (bys l)) (hc : l.length ≤ cp) (hcm : cp ≤ maxLen) (hg : g < w.heap.size) (ec : Addr) (hE : Errs w ec) :
    Calls Tryd.prog 22 #[.slice (some ⟨g, off, none⟩) l.length cp] w (GetR w l ec) := by
  go_enter_defers Tryd.func22, Tryd.ntmps22
  go_wp2_with fail
  have hb3 : Below w.heap.size w (((w.alloc (.cells #[.slice none 0 0, .int .i64 0, .int .i64 0, .slice none 0 0, .slice none 0 0, .int .i64 0, .slice none 0 0] 31)).alloc (.cells #[.nilIface] 36)).alloc (.cells #[.slice (some ⟨g, off, none⟩) l.length cp] 86)) := below_alloc (below_alloc (below_alloc (Below.refl _ _) _) _) _
  have hp3 : (((w.alloc (.cells #[.slice none 0 0, .int .i64 0, .int .i64 0, .slice none 0 0, .slice none 0 0, .int .i64 0, .slice none 0 0] 31)).alloc (.cells #[.nilIface] 36)).alloc (.cells #[.slice (some ⟨g, off, none⟩) l.length cp] 86)).heap[w.heap.size]? = some (.cells #[.slice none 0 0, .int .i64 0, .int .i64 0, .slice none 0 0, .slice none 0 0, .int .i64 0, .slice none 0 0] 31 (0, 0)) := blk_later (below_alloc (below_alloc (Below.refl _ _) _) _) (blk_new w _)
  have hq3 : (((w.alloc (.cells #[.slice none 0 0, .int .i64 0, .int .i64 0, .slice none 0 0, .slice none 0 0, .int .i64 0, .slice none 0 0] 31)).alloc (.cells #[.nilIface] 36)).alloc (.cells #[.slice (some ⟨g, off, none⟩) l.length cp] 86)).heap[w.heap.size + 1]? = some (.cells #[.nilIface] 36 (0, 0)) := blk_later (below_alloc (Below.refl _ _) _) (blk_new2 w _ _)
  have hx3 : (((w.alloc (.cells #[.slice none 0 0, .int .i64 0, .int .i64 0, .slice none 0 0, .slice none 0 0, .int .i64 0, .slice none 0 0] 31)).alloc (.cells #[.nilIface] 36)).alloc (.cells #[.slice (some ⟨g, off, none⟩) l.length cp] 86)).heap[w.heap.size + 1 + 1]? = some (.cells #[.slice (some ⟨g, off, none⟩) l.length cp] 86 (0, 0)) := by
    have h := blk_new ((w.alloc (.cells #[.slice none 0 0, .int .i64 0, .int .i64 0, .slice none 0 0, .slice none 0 0, .int .i64 0, .slice none 0 0] 31)).alloc (.cells #[.nilIface] 36)) (.cells #[.slice (some ⟨g, off, none⟩) l.length cp] 86)
    simpa using h
  have hz3 : (((w.alloc (.cells #[.slice none 0 0, .int .i64 0, .int .i64 0, .slice none 0 0, .slice none 0 0, .int .i64 0, .slice none 0 0] 31)).alloc (.cells #[.nilIface] 36)).alloc (.cells #[.slice (some ⟨g, off, none⟩) l.length cp] 86)).heap.size = w.heap.size + 1 + 1 + 1 := by simp
  generalize (((w.alloc (.cells #[.slice none 0 0, .int .i64 0, .int .i64 0, .slice none 0 0, .slice none 0 0, .int .i64 0, .slice none 0 0] 31)).alloc (.cells #[.nilIface] 36)).alloc (.cells #[.slice (some ⟨g, off, none⟩) l.length cp] 86)) = W3 at hb3 hp3 hq3 hx3 hz3 ⊢
  have HR3 : Hid (RdO W3 (w.heap.size + 1 + 1) g l) := ⟨off, cp, hx3, hr.later hb3, hc, hcm, by omega, by omega⟩
  have HB3 := Lib.hid hb3
  have HP3 := Lib.hid hp3
  have HQ3 := Lib.hid hq3
  have HE := Lib.hid hE
  have HZ3 := Lib.hid hz3
  clear hb3 hp3 hq3 hx3 hr hE hz3
  refine (codeRead (w.heap.size + 1 + 1) g l hB W3 HR3.out hm).mono ?_
  rintro e w4 ⟨hk4, ⟨c, hc1, rfl, hc3⟩ | ⟨hno, rfl⟩⟩
  · unfold Co.agg
    have hp4 := Lib.hid (hk4.heap HP3.out (by first | (simp; done) | (simp; omega)))
    have hq4 := Lib.hid (hk4.heap HQ3.out (by simp))
    have hb4 : Hid (Below w.heap.size w w4) := HB3.out.trans (hk4.below (by first | (simp; done) | (simp; omega)) HB3.out.size)
    have hpl4 := blk_lt hp4.out
    have hql4 := blk_lt hq4.out
    have s34 : W3.heap.size ≤ w4.heap.size := hk4.size
    have HC1 := Lib.hid hc1
    have HC3 := Lib.hid hc3
    obtain ⟨p0, p1, p2, p3, p4, p5, p6⟩ := blk7 hp4.out
    have z0 := blk_free hp4.out 0
    have z1 := blk_free hp4.out 1
    have z2 := blk_free hp4.out 2
    have z3 := blk_free hp4.out 3
    have z4 := blk_free hp4.out 4
    have z5 := blk_free hp4.out 5
    have z6 := blk_free hp4.out 6
    clear hk4 hc1 hc3
    go_upto_region 4 with fail
    have H5 : Hid ((((((((w4.setCell ⟨w.heap.size, 0, none⟩ (.slice c.pA c.places.length c.pc)).setCell ⟨w.heap.size, 1, none⟩ (.int .i64 c.mux)).setCell ⟨w.heap.size, 2, none⟩ (.int .i64 c.ato)).setCell ⟨w.heap.size, 3, none⟩ (.slice c.cA c.chans.length c.cc)).setCell ⟨w.heap.size, 4, none⟩ (.slice c.fA c.funcs.length c.fc)).setCell ⟨w.heap.size, 5, none⟩ (.int .i64 c.start)).setCell ⟨w.heap.size, 6, none⟩ (.slice c.bA c.body.length c.bc)).heap[w.heap.size]? = some (.cells #[.slice c.pA c.places.length c.pc, .int .i64 c.mux, .int .i64 c.ato, .slice c.cA c.chans.length c.cc, .slice c.fA c.funcs.length c.fc, .int .i64 c.start, .slice c.bA c.body.length c.bc] 31 (0, 0)) ∧ (((((((w4.setCell ⟨w.heap.size, 0, none⟩ (.slice c.pA c.places.length c.pc)).setCell ⟨w.heap.size, 1, none⟩ (.int .i64 c.mux)).setCell ⟨w.heap.size, 2, none⟩ (.int .i64 c.ato)).setCell ⟨w.heap.size, 3, none⟩ (.slice c.cA c.chans.length c.cc)).setCell ⟨w.heap.size, 4, none⟩ (.slice c.fA c.funcs.length c.fc)).setCell ⟨w.heap.size, 5, none⟩ (.int .i64 c.start)).setCell ⟨w.heap.size, 6, none⟩ (.slice c.bA c.body.length c.bc)).heap[w.heap.size + 1]? = some (.cells #[.nilIface] 36 (0, 0)) ∧ Below w.heap.size w (((((((w4.setCell ⟨w.heap.size, 0, none⟩ (.slice c.pA c.places.length c.pc)).setCell ⟨w.heap.size, 1, none⟩ (.int .i64 c.mux)).setCell ⟨w.heap.size, 2, none⟩ (.int .i64 c.ato)).setCell ⟨w.heap.size, 3, none⟩ (.slice c.cA c.chans.length c.cc)).setCell ⟨w.heap.size, 4, none⟩ (.slice c.fA c.funcs.length c.fc)).setCell ⟨w.heap.size, 5, none⟩ (.int .i64 c.start)).setCell ⟨w.heap.size, 6, none⟩ (.slice c.bA c.body.length c.bc)) ∧ KeptX (fun k => W3.heap.size ≤ k ∧ k < w4.heap.size) w4 (((((((w4.setCell ⟨w.heap.size, 0, none⟩ (.slice c.pA c.places.length c.pc)).setCell ⟨w.heap.size, 1, none⟩ (.int .i64 c.mux)).setCell ⟨w.heap.size, 2, none⟩ (.int .i64 c.ato)).setCell ⟨w.heap.size, 3, none⟩ (.slice c.cA c.chans.length c.cc)).setCell ⟨w.heap.size, 4, none⟩ (.slice c.fA c.funcs.length c.fc)).setCell ⟨w.heap.size, 5, none⟩ (.int .i64 c.start)).setCell ⟨w.heap.size, 6, none⟩ (.slice c.bA c.body.length c.bc))) := by
      have e0 := blk_set hp4.out 0 (.slice c.pA c.places.length c.pc)
      have e1 := blk_set e0 1 (.int .i64 c.mux)
      have e2 := blk_set e1 2 (.int .i64 c.ato)
      have e3 := blk_set e2 3 (.slice c.cA c.chans.length c.cc)
      have e4 := blk_set e3 4 (.slice c.fA c.funcs.length c.fc)
      have e5 := blk_set e4 5 (.int .i64 c.start)
      have e6 := blk_set e5 6 (.slice c.bA c.body.length c.bc)
      have f0 := blk_set_ne hq4.out ⟨w.heap.size, 0, none⟩ (.slice c.pA c.places.length c.pc) (by simp)
      have f1 := blk_set_ne f0 ⟨w.heap.size, 1, none⟩ (.int .i64 c.mux) (by simp)
      have f2 := blk_set_ne f1 ⟨w.heap.size, 2, none⟩ (.int .i64 c.ato) (by simp)
      have f3 := blk_set_ne f2 ⟨w.heap.size, 3, none⟩ (.slice c.cA c.chans.length c.cc) (by simp)
      have f4 := blk_set_ne f3 ⟨w.heap.size, 4, none⟩ (.slice c.fA c.funcs.length c.fc) (by simp)
      have f5 := blk_set_ne f4 ⟨w.heap.size, 5, none⟩ (.int .i64 c.start) (by simp)
      have f6 := blk_set_ne f5 ⟨w.heap.size, 6, none⟩ (.slice c.bA c.body.length c.bc) (by simp)
      have hk5 := ((((((((Kept.refl [w.heap.size, w.heap.size + 1] w4).set ⟨w.heap.size, 0, none⟩ (.slice c.pA c.places.length c.pc) (.inl (by simp))).set ⟨w.heap.size, 1, none⟩ (.int .i64 c.mux) (.inl (by simp))).set ⟨w.heap.size, 2, none⟩ (.int .i64 c.ato) (.inl (by simp))).set ⟨w.heap.size, 3, none⟩ (.slice c.cA c.chans.length c.cc) (.inl (by simp))).set ⟨w.heap.size, 4, none⟩ (.slice c.fA c.funcs.length c.fc) (.inl (by simp))).set ⟨w.heap.size, 5, none⟩ (.int .i64 c.start) (.inl (by simp))).set ⟨w.heap.size, 6, none⟩ (.slice c.bA c.body.length c.bc) (.inl (by simp)))
      refine ⟨by simpa using e6, f6, hb4.out.trans (hk5.below (by first | (simp; done) | (simp; omega)) hb4.out.size), KeptX.ofKept hk5 fun k hk => ⟨hk.2, by have := HZ3.out; simp; omega⟩⟩
    clear p0 p1 p2 p3 p4 p5 p6 z0 z1 z2 z3 z4 z5 z6 hpl4 hql4 s34 hp4 hq4 hb4
    generalize (((((((w4.setCell ⟨w.heap.size, 0, none⟩ (.slice c.pA c.places.length c.pc)).setCell ⟨w.heap.size, 1, none⟩ (.int .i64 c.mux)).setCell ⟨w.heap.size, 2, none⟩ (.int .i64 c.ato)).setCell ⟨w.heap.size, 3, none⟩ (.slice c.cA c.chans.length c.cc)).setCell ⟨w.heap.size, 4, none⟩ (.slice c.fA c.funcs.length c.fc)).setCell ⟨w.heap.size, 5, none⟩ (.int .i64 c.start)).setCell ⟨w.heap.size, 6, none⟩ (.slice c.bA c.body.length c.bc)) = w5 at H5 ⊢
    have hpl5 := blk_lt H5.out.1
    have hql5 := blk_lt H5.out.2.1
    obtain ⟨p0, p1, p2, p3, p4, p5, p6⟩ := blk7 H5.out.1
    have z0 := blk_free H5.out.1 0
    have z1 := blk_free H5.out.1 1
    have z2 := blk_free H5.out.1 2
    have z3 := blk_free H5.out.1 3
    have z4 := blk_free H5.out.1 4
    have z5 := blk_free H5.out.1 5
    have z6 := blk_free H5.out.1 6
    have q0 : w5.cell? ⟨w.heap.size + 1, 0, none⟩ = some .nilIface := by rw [blk_cell H5.out.2.1]; rfl
    have y0 := blk_free H5.out.2.1 0
    go_wp2_with fail
    have HRC := Lib.hid (HC3.out w5 H5.out.2.2.2)
    refine (check_any c w5 HRC.out ec (HE.out.later (H5.out.2.2.1))).mono ?_
    clear p0 p1 p2 p3 p4 p5 p6 z0 z1 z2 z3 z4 z5 z6 q0 y0 hpl5 hql5
    cases hB : checkB c
    · have HF := Lib.hid hB
      clear hB
      unfold checkV errV
      rw [HF.out]
      rintro e w6 ⟨rfl, hb6⟩
      simp only [Bool.false_eq_true, if_false]
      have hp6 := Lib.hid (blk_later hb6 H5.out.1)
      have hq6 := Lib.hid (blk_later hb6 H5.out.2.1)
      have hb6w := Lib.hid (below_next H5.out.2.2.1 hb6)
      have hpl6 := blk_lt hp6.out
      have hql6 := blk_lt hq6.out
      obtain ⟨p0, p1, p2, p3, p4, p5, p6⟩ := blk7 hp6.out
      have z0 := blk_free hp6.out 0
      have z1 := blk_free hp6.out 1
      have z2 := blk_free hp6.out 2
      have z3 := blk_free hp6.out 3
      have z4 := blk_free hp6.out 4
      have z5 := blk_free hp6.out 5
      have z6 := blk_free hp6.out 6
      have q0 : w6.cell? ⟨w.heap.size + 1, 0, none⟩ = some .nilIface := by rw [blk_cell hq6.out]; rfl
      have y0 := blk_free hq6.out 0
      clear hb6
      go_wp2_with fail
      have H7 : Hid (((((((((w6.setCell ⟨w.heap.size, 0, none⟩ (.slice none 0 0)).setCell ⟨w.heap.size, 1, none⟩ (.int .i64 0)).setCell ⟨w.heap.size, 2, none⟩ (.int .i64 0)).setCell ⟨w.heap.size, 3, none⟩ (.slice none 0 0)).setCell ⟨w.heap.size, 4, none⟩ (.slice none 0 0)).setCell ⟨w.heap.size, 5, none⟩ (.int .i64 0)).setCell ⟨w.heap.size, 6, none⟩ (.slice none 0 0)).setCell ⟨w.heap.size + 1, 0, none⟩ (.iface 116 (.pointer (some ec)))).heap[w.heap.size]? = some (.cells #[.slice none 0 0, .int .i64 0, .int .i64 0, .slice none 0 0, .slice none 0 0, .int .i64 0, .slice none 0 0] 31 (0, 0)) ∧ ((((((((w6.setCell ⟨w.heap.size, 0, none⟩ (.slice none 0 0)).setCell ⟨w.heap.size, 1, none⟩ (.int .i64 0)).setCell ⟨w.heap.size, 2, none⟩ (.int .i64 0)).setCell ⟨w.heap.size, 3, none⟩ (.slice none 0 0)).setCell ⟨w.heap.size, 4, none⟩ (.slice none 0 0)).setCell ⟨w.heap.size, 5, none⟩ (.int .i64 0)).setCell ⟨w.heap.size, 6, none⟩ (.slice none 0 0)).setCell ⟨w.heap.size + 1, 0, none⟩ (.iface 116 (.pointer (some ec)))).heap[w.heap.size + 1]? = some (.cells #[(.iface 116 (.pointer (some ec)))] 36 (0, 0)) ∧ Kept [w.heap.size, w.heap.size + 1] w6 ((((((((w6.setCell ⟨w.heap.size, 0, none⟩ (.slice none 0 0)).setCell ⟨w.heap.size, 1, none⟩ (.int .i64 0)).setCell ⟨w.heap.size, 2, none⟩ (.int .i64 0)).setCell ⟨w.heap.size, 3, none⟩ (.slice none 0 0)).setCell ⟨w.heap.size, 4, none⟩ (.slice none 0 0)).setCell ⟨w.heap.size, 5, none⟩ (.int .i64 0)).setCell ⟨w.heap.size, 6, none⟩ (.slice none 0 0)).setCell ⟨w.heap.size + 1, 0, none⟩ (.iface 116 (.pointer (some ec))))) := by
        have e0 := blk_set hp6.out 0 (.slice none 0 0)
        have e1 := blk_set e0 1 (.int .i64 0)
        have e2 := blk_set e1 2 (.int .i64 0)
        have e3 := blk_set e2 3 (.slice none 0 0)
        have e4 := blk_set e3 4 (.slice none 0 0)
        have e5 := blk_set e4 5 (.int .i64 0)
        have e6 := blk_set e5 6 (.slice none 0 0)
        have f0 := blk_set_ne hq6.out ⟨w.heap.size, 0, none⟩ (.slice none 0 0) (by simp)
        have f1 := blk_set_ne f0 ⟨w.heap.size, 1, none⟩ (.int .i64 0) (by simp)
        have f2 := blk_set_ne f1 ⟨w.heap.size, 2, none⟩ (.int .i64 0) (by simp)
        have f3 := blk_set_ne f2 ⟨w.heap.size, 3, none⟩ (.slice none 0 0) (by simp)
        have f4 := blk_set_ne f3 ⟨w.heap.size, 4, none⟩ (.slice none 0 0) (by simp)
        have f5 := blk_set_ne f4 ⟨w.heap.size, 5, none⟩ (.int .i64 0) (by simp)
        have f6 := blk_set_ne f5 ⟨w.heap.size, 6, none⟩ (.slice none 0 0) (by simp)
        have e8 := blk_set_ne e6 ⟨w.heap.size + 1, 0, none⟩ (.iface 116 (.pointer (some ec))) (by simp)
        have f8 := blk_set f6 0 (.iface 116 (.pointer (some ec)))
        exact ⟨by simpa using e8, by simpa using f8, (((((((((Kept.refl [w.heap.size, w.heap.size + 1] w6).set ⟨w.heap.size, 0, none⟩ (.slice none 0 0) (.inl (by simp))).set ⟨w.heap.size, 1, none⟩ (.int .i64 0) (.inl (by simp))).set ⟨w.heap.size, 2, none⟩ (.int .i64 0) (.inl (by simp))).set ⟨w.heap.size, 3, none⟩ (.slice none 0 0) (.inl (by simp))).set ⟨w.heap.size, 4, none⟩ (.slice none 0 0) (.inl (by simp))).set ⟨w.heap.size, 5, none⟩ (.int .i64 0) (.inl (by simp))).set ⟨w.heap.size, 6, none⟩ (.slice none 0 0) (.inl (by simp))).set ⟨w.heap.size + 1, 0, none⟩ (.iface 116 (.pointer (some ec))) (.inl (by simp)))⟩
      clear p0 p1 p2 p3 p4 p5 p6 z0 z1 z2 z3 z4 z5 z6 q0 y0 hpl6 hql6
      generalize ((((((((w6.setCell ⟨w.heap.size, 0, none⟩ (.slice none 0 0)).setCell ⟨w.heap.size, 1, none⟩ (.int .i64 0)).setCell ⟨w.heap.size, 2, none⟩ (.int .i64 0)).setCell ⟨w.heap.size, 3, none⟩ (.slice none 0 0)).setCell ⟨w.heap.size, 4, none⟩ (.slice none 0 0)).setCell ⟨w.heap.size, 5, none⟩ (.int .i64 0)).setCell ⟨w.heap.size, 6, none⟩ (.slice none 0 0)).setCell ⟨w.heap.size + 1, 0, none⟩ (.iface 116 (.pointer (some ec)))) = w7 at H7 ⊢
      refine leaves_cons (f := 46) (args := #[.pointer (some ⟨w.heap.size, 0, none⟩), .pointer (some ⟨w.heap.size + 1, 0, none⟩)]) (by simp) (by simp [go_sem]) ?_
      refine (catch_idle _ _ _).mono ?_
      rintro e u' w'' ⟨rfl, rfl, rfl⟩
      obtain ⟨r0, r1, r2, r3, r4, r5, r6⟩ := blk7 H7.out.1
      have rq : w''.cell? ⟨w.heap.size + 1, 0, none⟩ = some (.iface 116 (.pointer (some ec))) := by rw [blk_cell H7.out.2.1]; rfl
      refine ⟨.tuple #[.agg #[.slice none 0 0, .int .i64 0, .int .i64 0, .slice none 0 0, .slice none 0 0, .int .i64 0, .slice none 0 0], .iface 116 (.pointer (some ec))], by simp [results, Tryd.results22, go_sem, r0, r1, r2, r3, r4, r5, r6, rq], hb6w.out.trans (H7.out.2.2.below (by simp) hb6w.out.size), .inr ⟨fun d hd => ?_, rfl⟩⟩
      rw [HC1.out] at hd
      rw [← HF.out]
      exact (checkB_pl (Option.some.inj hd)).symm
    · have HF := Lib.hid hB
      clear hB
      unfold checkV
      rw [HF.out]
      rintro e w6 ⟨rfl, hb6⟩
      simp only [if_true]
      have hp6 := Lib.hid (blk_later hb6 H5.out.1)
      have hq6 := Lib.hid (blk_later hb6 H5.out.2.1)
      have hb6w := Lib.hid (below_next H5.out.2.2.1 hb6)
      have hb56 := Lib.hid hb6
      have hpl6 := blk_lt hp6.out
      have hql6 := blk_lt hq6.out
      obtain ⟨p0, p1, p2, p3, p4, p5, p6⟩ := blk7 hp6.out
      have z0 := blk_free hp6.out 0
      have z1 := blk_free hp6.out 1
      have z2 := blk_free hp6.out 2
      have z3 := blk_free hp6.out 3
      have z4 := blk_free hp6.out 4
      have z5 := blk_free hp6.out 5
      have z6 := blk_free hp6.out 6
      have q0 : w6.cell? ⟨w.heap.size + 1, 0, none⟩ = some .nilIface := by rw [blk_cell hq6.out]; rfl
      have y0 := blk_free hq6.out 0
      clear hb6
      go_wp2_with fail
      have H7 : Hid (((((((((w6.setCell ⟨w.heap.size, 0, none⟩ (.slice c.pA c.places.length c.pc)).setCell ⟨w.heap.size, 1, none⟩ (.int .i64 c.mux)).setCell ⟨w.heap.size, 2, none⟩ (.int .i64 c.ato)).setCell ⟨w.heap.size, 3, none⟩ (.slice c.cA c.chans.length c.cc)).setCell ⟨w.heap.size, 4, none⟩ (.slice c.fA c.funcs.length c.fc)).setCell ⟨w.heap.size, 5, none⟩ (.int .i64 c.start)).setCell ⟨w.heap.size, 6, none⟩ (.slice c.bA c.body.length c.bc)).setCell ⟨w.heap.size + 1, 0, none⟩ .nilIface).heap[w.heap.size]? = some (.cells #[.slice c.pA c.places.length c.pc, .int .i64 c.mux, .int .i64 c.ato, .slice c.cA c.chans.length c.cc, .slice c.fA c.funcs.length c.fc, .int .i64 c.start, .slice c.bA c.body.length c.bc] 31 (0, 0)) ∧ ((((((((w6.setCell ⟨w.heap.size, 0, none⟩ (.slice c.pA c.places.length c.pc)).setCell ⟨w.heap.size, 1, none⟩ (.int .i64 c.mux)).setCell ⟨w.heap.size, 2, none⟩ (.int .i64 c.ato)).setCell ⟨w.heap.size, 3, none⟩ (.slice c.cA c.chans.length c.cc)).setCell ⟨w.heap.size, 4, none⟩ (.slice c.fA c.funcs.length c.fc)).setCell ⟨w.heap.size, 5, none⟩ (.int .i64 c.start)).setCell ⟨w.heap.size, 6, none⟩ (.slice c.bA c.body.length c.bc)).setCell ⟨w.heap.size + 1, 0, none⟩ .nilIface).heap[w.heap.size + 1]? = some (.cells #[.nilIface] 36 (0, 0)) ∧ Kept [w.heap.size, w.heap.size + 1] w6 ((((((((w6.setCell ⟨w.heap.size, 0, none⟩ (.slice c.pA c.places.length c.pc)).setCell ⟨w.heap.size, 1, none⟩ (.int .i64 c.mux)).setCell ⟨w.heap.size, 2, none⟩ (.int .i64 c.ato)).setCell ⟨w.heap.size, 3, none⟩ (.slice c.cA c.chans.length c.cc)).setCell ⟨w.heap.size, 4, none⟩ (.slice c.fA c.funcs.length c.fc)).setCell ⟨w.heap.size, 5, none⟩ (.int .i64 c.start)).setCell ⟨w.heap.size, 6, none⟩ (.slice c.bA c.body.length c.bc)).setCell ⟨w.heap.size + 1, 0, none⟩ .nilIface)) := by
        have e0 := blk_set hp6.out 0 (.slice c.pA c.places.length c.pc)
        have e1 := blk_set e0 1 (.int .i64 c.mux)
        have e2 := blk_set e1 2 (.int .i64 c.ato)
        have e3 := blk_set e2 3 (.slice c.cA c.chans.length c.cc)
        have e4 := blk_set e3 4 (.slice c.fA c.funcs.length c.fc)
        have e5 := blk_set e4 5 (.int .i64 c.start)
        have e6 := blk_set e5 6 (.slice c.bA c.body.length c.bc)
        have f0 := blk_set_ne hq6.out ⟨w.heap.size, 0, none⟩ (.slice c.pA c.places.length c.pc) (by simp)
        have f1 := blk_set_ne f0 ⟨w.heap.size, 1, none⟩ (.int .i64 c.mux) (by simp)
        have f2 := blk_set_ne f1 ⟨w.heap.size, 2, none⟩ (.int .i64 c.ato) (by simp)
        have f3 := blk_set_ne f2 ⟨w.heap.size, 3, none⟩ (.slice c.cA c.chans.length c.cc) (by simp)
        have f4 := blk_set_ne f3 ⟨w.heap.size, 4, none⟩ (.slice c.fA c.funcs.length c.fc) (by simp)
        have f5 := blk_set_ne f4 ⟨w.heap.size, 5, none⟩ (.int .i64 c.start) (by simp)
        have f6 := blk_set_ne f5 ⟨w.heap.size, 6, none⟩ (.slice c.bA c.body.length c.bc) (by simp)
        have e8 := blk_set_ne e6 ⟨w.heap.size + 1, 0, none⟩ .nilIface (by simp)
        have f8 := blk_set f6 0 .nilIface
        exact ⟨by simpa using e8, by simpa using f8, (((((((((Kept.refl [w.heap.size, w.heap.size + 1] w6).set ⟨w.heap.size, 0, none⟩ (.slice c.pA c.places.length c.pc) (.inl (by simp))).set ⟨w.heap.size, 1, none⟩ (.int .i64 c.mux) (.inl (by simp))).set ⟨w.heap.size, 2, none⟩ (.int .i64 c.ato) (.inl (by simp))).set ⟨w.heap.size, 3, none⟩ (.slice c.cA c.chans.length c.cc) (.inl (by simp))).set ⟨w.heap.size, 4, none⟩ (.slice c.fA c.funcs.length c.fc) (.inl (by simp))).set ⟨w.heap.size, 5, none⟩ (.int .i64 c.start) (.inl (by simp))).set ⟨w.heap.size, 6, none⟩ (.slice c.bA c.body.length c.bc) (.inl (by simp))).set ⟨w.heap.size + 1, 0, none⟩ .nilIface (.inl (by simp)))⟩
      clear p0 p1 p2 p3 p4 p5 p6 z0 z1 z2 z3 z4 z5 z6 q0 y0 hpl6 hql6
      generalize ((((((((w6.setCell ⟨w.heap.size, 0, none⟩ (.slice c.pA c.places.length c.pc)).setCell ⟨w.heap.size, 1, none⟩ (.int .i64 c.mux)).setCell ⟨w.heap.size, 2, none⟩ (.int .i64 c.ato)).setCell ⟨w.heap.size, 3, none⟩ (.slice c.cA c.chans.length c.cc)).setCell ⟨w.heap.size, 4, none⟩ (.slice c.fA c.funcs.length c.fc)).setCell ⟨w.heap.size, 5, none⟩ (.int .i64 c.start)).setCell ⟨w.heap.size, 6, none⟩ (.slice c.bA c.body.length c.bc)).setCell ⟨w.heap.size + 1, 0, none⟩ .nilIface) = w7 at H7 ⊢
      refine leaves_cons (f := 46) (args := #[.pointer (some ⟨w.heap.size, 0, none⟩), .pointer (some ⟨w.heap.size + 1, 0, none⟩)]) (by simp) (by simp [go_sem]) ?_
      refine (catch_idle _ _ _).mono ?_
      rintro e u' w'' ⟨rfl, rfl, rfl⟩
      obtain ⟨r0, r1, r2, r3, r4, r5, r6⟩ := blk7 H7.out.1
      have rq : w''.cell? ⟨w.heap.size + 1, 0, none⟩ = some .nilIface := by rw [blk_cell H7.out.2.1]; rfl
      refine ⟨.tuple #[.agg #[.slice c.pA c.places.length c.pc, .int .i64 c.mux, .int .i64 c.ato, .slice c.cA c.chans.length c.cc, .slice c.fA c.funcs.length c.fc, .int .i64 c.start, .slice c.bA c.body.length c.bc], .nilIface], by simp [results, Tryd.results22, go_sem, r0, r1, r2, r3, r4, r5, r6, rq], hb6w.out.trans (H7.out.2.2.below (by simp) hb6w.out.size), .inl ⟨c, HC1.out, HF.out, rfl, HC3.out _ ?_⟩⟩
      exact kx_kept' (X := fun k => W3.heap.size ≤ k) (kx_kept' (X := fun k => W3.heap.size ≤ k) H5.out.2.2.2 (Kept.ofBelow hb56.out []) (Nat.le_refl _) (fun k hk => by simp)) H7.out.2.2 (Nat.le_refl _) (fun k hk => by have := HZ3.out; simp; omega)
  · have hp4 := Lib.hid (hk4.heap HP3.out (by first | (simp; done) | (simp; omega)))
    have hq4 := Lib.hid (hk4.heap HQ3.out (by simp))
    have HK4 := Lib.hid hk4
    have hb4 : Hid (Below w.heap.size w w4) := HB3.out.trans (hk4.below (by first | (simp; done) | (simp; omega)) HB3.out.size)
    clear hk4
    go_wp2_with fail
    refine leaves_cons (f := 46) (args := #[.pointer (some ⟨w.heap.size, 0, none⟩), .pointer (some ⟨w.heap.size + 1, 0, none⟩)]) (by simp) (by simp [go_sem]) ?_
    refine (catch_short w.heap.size (w.heap.size + 1) _ _ _ _ _ _ _ _ ec w4 hp4.out hq4.out (by simp) (HE.out.later hb4.out) []).mono ?_
    rintro e u' w5 ⟨rfl, rfl, h1, h2, h3⟩
    obtain ⟨r0, r1, r2, r3, r4, r5, r6⟩ := blk7 h1
    have rq : w5.cell? ⟨w.heap.size + 1, 0, none⟩ = some (.iface 116 (.pointer (some ec))) := by rw [blk_cell h2]; rfl
    refine ⟨.tuple #[.agg #[.slice none 0 0, .int .i64 0, .int .i64 0, .slice none 0 0, .slice none 0 0, .int .i64 0, .slice none 0 0], .iface 116 (.pointer (some ec))], by simp [results, Tryd.results22, go_sem, r0, r1, r2, r3, r4, r5, r6, rq], hb4.out.trans (h3.below (by simp) hb4.out.size), .inr ⟨fun d hd => ?_, rfl⟩⟩
    rw [hno] at hd
    cases hd
end Go.Proofs.YtbpbimkadiobfaaDoor
