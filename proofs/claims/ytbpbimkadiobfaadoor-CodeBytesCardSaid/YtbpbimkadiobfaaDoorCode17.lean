/-
  CodeSame: which codes are the same; which operators have which numbers.
-/
import Derived.Test.YtbpbimkadiobfaaDoorCode15
import Derived.Test.YtbpbimkadiobfaaDoorCode16
import Derived.Test.YtbpbimkadiobfaaDoorCode11
import Derived.Deep.RegionHeld3
import Derived.Deep.RegionLaw
import Derived.Deep.DeepCutAuto
import Derived.Deep.DrawnRows
namespace Go.Proofs.YtbpbimkadiobfaaDoor
open Go.RowKit Go.Stk
attribute [local go_sem ↓] Go.wp_at_zero Go.wp_at_succ

def pairAgg (a b : Co) (op n : Int) : Value := .agg #[.slice a.pA a.places.length a.pc, .int .i64 a.mux, .int .i64 a.ato, .slice a.cA a.chans.length a.cc, .slice a.fA a.funcs.length a.fc, .int .i64 a.start, .slice a.bA a.body.length a.bc, .slice b.pA b.places.length b.pc, .int .i64 b.mux, .int .i64 b.ato, .slice b.cA b.chans.length b.cc, .slice b.fA b.funcs.length b.fc, .int .i64 b.start, .slice b.bA b.body.length b.bc, .int .i64 op, .int .i64 n]
theorem below_drew0 (w : World) : Below w.heap.size w w.drew := ⟨rfl, rfl, rfl, Nat.le_refl _, fun _ _ => rfl⟩
theorem op_named (op n : Int) : (opName op n ≠ ⟨#[]⟩ ∧ (op = 10 ∧ 1 ≤ n ∧ n ≤ 4 ∧ unR (opName op n).toList = n ∨ op = 11 ∧ 1 ≤ n ∧ n ≤ 11 ∧ binR (opName op n).toList = n)) ∨ (opName op n = ⟨#[]⟩ ∧ ¬ (op = 10 ∧ 1 ≤ n ∧ n ≤ 4) ∧ ¬ (op = 11 ∧ 1 ≤ n ∧ n ≤ 11)) := by
  by_cases h1 : op = 10 ∧ 1 ≤ n ∧ n ≤ 4
  · obtain ⟨rfl, h2, h3⟩ := h1
    refine .inl ?_
    obtain rfl | rfl | rfl | rfl : n = 1 ∨ n = 2 ∨ n = 3 ∨ n = 4 := by omega
    all_goals exact ⟨by decide, .inl ⟨rfl, by omega, by omega, by rw [ByteArray.toList_eq]; decide⟩⟩
  by_cases h2 : op = 11 ∧ 1 ≤ n ∧ n ≤ 11
  · obtain ⟨rfl, h3, h4⟩ := h2
    refine .inl ?_
    obtain rfl | rfl | rfl | rfl | rfl | rfl | rfl | rfl | rfl | rfl | rfl : n = 1 ∨ n = 2 ∨ n = 3 ∨ n = 4 ∨ n = 5 ∨ n = 6 ∨ n = 7 ∨ n = 8 ∨ n = 9 ∨ n = 10 ∨ n = 11 := by omega
    all_goals exact ⟨by decide, .inr ⟨rfl, by omega, by omega, by rw [ByteArray.toList_eq]; decide⟩⟩
  · refine .inr ⟨?_, h1, h2⟩
    unfold opName
    by_cases h0 : n < 0
    · rw [if_pos h0]
    · rw [if_neg h0]
      by_cases h10 : op = 10
      · rw [if_pos h10]
        by_cases hz : n = 0
        · subst hz; rfl
        · rw [List.getD_eq_getElem?_getD, List.getElem?_eq_none (show unaryL.length ≤ n.toNat by show 5 ≤ n.toNat; omega)]
          rfl
      · rw [if_neg h10]
        by_cases h11 : op = 11
        · rw [if_pos h11]
          by_cases hz : n = 0
          · subst hz; rfl
          · rw [List.getD_eq_getElem?_getD, List.getElem?_eq_none (show binaryL.length ≤ n.toNat by show 12 ≤ n.toNat; omega)]
            rfl
        · rw [if_neg h11]
theorem sameB_refl (a : Co) : sameB a a = true := by simp [sameB, fnsEq_refl]
/-- The two codes in their boxes. -/
structure PrR (w wr : World) (a b : Co) (ba bb : Nat) : Prop where
  bl : Below w.heap.size w wr
  ra : a.Rep wr
  rb : b.Rep wr
  xa : Co.Box wr ba a
  xb : Co.Box wr bb b
theorem PrR.later {w wr w' : World} {a b : Co} {ba bb : Nat} (h : PrR w wr a b ba bb) (hb : Below wr.heap.size wr w') : PrR w w' a b ba bb := ⟨below_next h.bl hb, h.ra.later hb, h.rb.later hb, h.xa.later hb, h.xb.later hb⟩
theorem PrR.cells {w w' : World} {a b : Co} {ba bb : Nat} (h : PrR w w' a b ba bb) : Hid (PrR w w' a b ba bb) ∧ w'.cell? ⟨ba, 0, none⟩ = some (.slice a.pA a.places.length a.pc) ∧ w'.cell? ⟨ba, 1, none⟩ = some (.int .i64 a.mux) ∧ w'.cell? ⟨ba, 2, none⟩ = some (.int .i64 a.ato) ∧ w'.cell? ⟨ba, 3, none⟩ = some (.slice a.cA a.chans.length a.cc) ∧ w'.cell? ⟨ba, 4, none⟩ = some (.slice a.fA a.funcs.length a.fc) ∧ w'.cell? ⟨ba, 5, none⟩ = some (.int .i64 a.start) ∧ w'.cell? ⟨ba, 6, none⟩ = some (.slice a.bA a.body.length a.bc) ∧ w'.cell? ⟨bb, 0, none⟩ = some (.slice b.pA b.places.length b.pc) ∧ w'.cell? ⟨bb, 1, none⟩ = some (.int .i64 b.mux) ∧ w'.cell? ⟨bb, 2, none⟩ = some (.int .i64 b.ato) ∧ w'.cell? ⟨bb, 3, none⟩ = some (.slice b.cA b.chans.length b.cc) ∧ w'.cell? ⟨bb, 4, none⟩ = some (.slice b.fA b.funcs.length b.fc) ∧ w'.cell? ⟨bb, 5, none⟩ = some (.int .i64 b.start) ∧ w'.cell? ⟨bb, 6, none⟩ = some (.slice b.bA b.body.length b.bc) :=
  ⟨h, h.xa.c0, h.xa.c1, h.xa.c2, h.xa.c3, h.xa.c4, h.xa.c5, h.xa.c6, h.xb.c0, h.xb.c1, h.xb.c2, h.xb.c3, h.xb.c4, h.xb.c5, h.xb.c6⟩
theorem prR_start (a b : Co) (op n : Int) (w : World) (ha : a.Rep w) (hb : b.Rep w) : PrR w (((w.alloc (.cells #[.slice a.pA a.places.length a.pc, .int .i64 a.mux, .int .i64 a.ato, .slice a.cA a.chans.length a.cc, .slice a.fA a.funcs.length a.fc, .int .i64 a.start, .slice a.bA a.body.length a.bc, .slice b.pA b.places.length b.pc, .int .i64 b.mux, .int .i64 b.ato, .slice b.cA b.chans.length b.cc, .slice b.fA b.funcs.length b.fc, .int .i64 b.start, .slice b.bA b.body.length b.bc, .int .i64 op, .int .i64 n] 42)).alloc (.cells #[.slice a.pA a.places.length a.pc, .int .i64 a.mux, .int .i64 a.ato, .slice a.cA a.chans.length a.cc, .slice a.fA a.funcs.length a.fc, .int .i64 a.start, .slice a.bA a.body.length a.bc] 31)).alloc (.cells #[.slice b.pA b.places.length b.pc, .int .i64 b.mux, .int .i64 b.ato, .slice b.cA b.chans.length b.cc, .slice b.fA b.funcs.length b.fc, .int .i64 b.start, .slice b.bA b.body.length b.bc] 31)).drew a b (w.heap.size + 1) (w.heap.size + 1 + 1) := by
  have hB : Below w.heap.size w (((w.alloc (.cells #[.slice a.pA a.places.length a.pc, .int .i64 a.mux, .int .i64 a.ato, .slice a.cA a.chans.length a.cc, .slice a.fA a.funcs.length a.fc, .int .i64 a.start, .slice a.bA a.body.length a.bc, .slice b.pA b.places.length b.pc, .int .i64 b.mux, .int .i64 b.ato, .slice b.cA b.chans.length b.cc, .slice b.fA b.funcs.length b.fc, .int .i64 b.start, .slice b.bA b.body.length b.bc, .int .i64 op, .int .i64 n] 42)).alloc (.cells #[.slice a.pA a.places.length a.pc, .int .i64 a.mux, .int .i64 a.ato, .slice a.cA a.chans.length a.cc, .slice a.fA a.funcs.length a.fc, .int .i64 a.start, .slice a.bA a.body.length a.bc] 31)).alloc (.cells #[.slice b.pA b.places.length b.pc, .int .i64 b.mux, .int .i64 b.ato, .slice b.cA b.chans.length b.cc, .slice b.fA b.funcs.length b.fc, .int .i64 b.start, .slice b.bA b.body.length b.bc] 31)).drew := (below_alloc (below_alloc (below_alloc (Below.refl _ _) _) _) _).drew
  have e1 : (w.alloc (.cells #[.slice a.pA a.places.length a.pc, .int .i64 a.mux, .int .i64 a.ato, .slice a.cA a.chans.length a.cc, .slice a.fA a.funcs.length a.fc, .int .i64 a.start, .slice a.bA a.body.length a.bc, .slice b.pA b.places.length b.pc, .int .i64 b.mux, .int .i64 b.ato, .slice b.cA b.chans.length b.cc, .slice b.fA b.funcs.length b.fc, .int .i64 b.start, .slice b.bA b.body.length b.bc, .int .i64 op, .int .i64 n] 42)).heap.size = w.heap.size + 1 := by simp
  have e2 : ((w.alloc (.cells #[.slice a.pA a.places.length a.pc, .int .i64 a.mux, .int .i64 a.ato, .slice a.cA a.chans.length a.cc, .slice a.fA a.funcs.length a.fc, .int .i64 a.start, .slice a.bA a.body.length a.bc, .slice b.pA b.places.length b.pc, .int .i64 b.mux, .int .i64 b.ato, .slice b.cA b.chans.length b.cc, .slice b.fA b.funcs.length b.fc, .int .i64 b.start, .slice b.bA b.body.length b.bc, .int .i64 op, .int .i64 n] 42)).alloc (.cells #[.slice a.pA a.places.length a.pc, .int .i64 a.mux, .int .i64 a.ato, .slice a.cA a.chans.length a.cc, .slice a.fA a.funcs.length a.fc, .int .i64 a.start, .slice a.bA a.body.length a.bc] 31)).heap.size = w.heap.size + 1 + 1 := by simp
  have h1 := Co.box_new (w.alloc (.cells #[.slice a.pA a.places.length a.pc, .int .i64 a.mux, .int .i64 a.ato, .slice a.cA a.chans.length a.cc, .slice a.fA a.funcs.length a.fc, .int .i64 a.start, .slice a.bA a.body.length a.bc, .slice b.pA b.places.length b.pc, .int .i64 b.mux, .int .i64 b.ato, .slice b.cA b.chans.length b.cc, .slice b.fA b.funcs.length b.fc, .int .i64 b.start, .slice b.bA b.body.length b.bc, .int .i64 op, .int .i64 n] 42)) a 31
  have h2 := Co.box_new ((w.alloc (.cells #[.slice a.pA a.places.length a.pc, .int .i64 a.mux, .int .i64 a.ato, .slice a.cA a.chans.length a.cc, .slice a.fA a.funcs.length a.fc, .int .i64 a.start, .slice a.bA a.body.length a.bc, .slice b.pA b.places.length b.pc, .int .i64 b.mux, .int .i64 b.ato, .slice b.cA b.chans.length b.cc, .slice b.fA b.funcs.length b.fc, .int .i64 b.start, .slice b.bA b.body.length b.bc, .int .i64 op, .int .i64 n] 42)).alloc (.cells #[.slice a.pA a.places.length a.pc, .int .i64 a.mux, .int .i64 a.ato, .slice a.cA a.chans.length a.cc, .slice a.fA a.funcs.length a.fc, .int .i64 a.start, .slice a.bA a.body.length a.bc] 31)) b 31
  rw [e1] at h1
  rw [e2] at h2
  exact ⟨hB, ha.later hB, hb.later hB, (h1.later (below_alloc (Below.refl _ _) (.cells #[.slice b.pA b.places.length b.pc, .int .i64 b.mux, .int .i64 b.ato, .slice b.cA b.chans.length b.cc, .slice b.fA b.funcs.length b.fc, .int .i64 b.start, .slice b.bA b.body.length b.bc] 31))).later (below_drew0 _), h2.later (below_drew0 _)⟩
theorem prR_start2 (a b : Co) (op n : Int) (w : World) (ha : a.Rep w) (hb : b.Rep w) : PrR w (((w.alloc (.cells #[.slice a.pA a.places.length a.pc, .int .i64 a.mux, .int .i64 a.ato, .slice a.cA a.chans.length a.cc, .slice a.fA a.funcs.length a.fc, .int .i64 a.start, .slice a.bA a.body.length a.bc, .slice b.pA b.places.length b.pc, .int .i64 b.mux, .int .i64 b.ato, .slice b.cA b.chans.length b.cc, .slice b.fA b.funcs.length b.fc, .int .i64 b.start, .slice b.bA b.body.length b.bc, .int .i64 op, .int .i64 n] 42)).alloc (.cells #[.slice b.pA b.places.length b.pc, .int .i64 b.mux, .int .i64 b.ato, .slice b.cA b.chans.length b.cc, .slice b.fA b.funcs.length b.fc, .int .i64 b.start, .slice b.bA b.body.length b.bc] 31)).alloc (.cells #[.slice a.pA a.places.length a.pc, .int .i64 a.mux, .int .i64 a.ato, .slice a.cA a.chans.length a.cc, .slice a.fA a.funcs.length a.fc, .int .i64 a.start, .slice a.bA a.body.length a.bc] 31)).drew a b (w.heap.size + 1 + 1) (w.heap.size + 1) := by
  have hB : Below w.heap.size w (((w.alloc (.cells #[.slice a.pA a.places.length a.pc, .int .i64 a.mux, .int .i64 a.ato, .slice a.cA a.chans.length a.cc, .slice a.fA a.funcs.length a.fc, .int .i64 a.start, .slice a.bA a.body.length a.bc, .slice b.pA b.places.length b.pc, .int .i64 b.mux, .int .i64 b.ato, .slice b.cA b.chans.length b.cc, .slice b.fA b.funcs.length b.fc, .int .i64 b.start, .slice b.bA b.body.length b.bc, .int .i64 op, .int .i64 n] 42)).alloc (.cells #[.slice b.pA b.places.length b.pc, .int .i64 b.mux, .int .i64 b.ato, .slice b.cA b.chans.length b.cc, .slice b.fA b.funcs.length b.fc, .int .i64 b.start, .slice b.bA b.body.length b.bc] 31)).alloc (.cells #[.slice a.pA a.places.length a.pc, .int .i64 a.mux, .int .i64 a.ato, .slice a.cA a.chans.length a.cc, .slice a.fA a.funcs.length a.fc, .int .i64 a.start, .slice a.bA a.body.length a.bc] 31)).drew := (below_alloc (below_alloc (below_alloc (Below.refl _ _) _) _) _).drew
  have e1 : (w.alloc (.cells #[.slice a.pA a.places.length a.pc, .int .i64 a.mux, .int .i64 a.ato, .slice a.cA a.chans.length a.cc, .slice a.fA a.funcs.length a.fc, .int .i64 a.start, .slice a.bA a.body.length a.bc, .slice b.pA b.places.length b.pc, .int .i64 b.mux, .int .i64 b.ato, .slice b.cA b.chans.length b.cc, .slice b.fA b.funcs.length b.fc, .int .i64 b.start, .slice b.bA b.body.length b.bc, .int .i64 op, .int .i64 n] 42)).heap.size = w.heap.size + 1 := by simp
  have e2 : ((w.alloc (.cells #[.slice a.pA a.places.length a.pc, .int .i64 a.mux, .int .i64 a.ato, .slice a.cA a.chans.length a.cc, .slice a.fA a.funcs.length a.fc, .int .i64 a.start, .slice a.bA a.body.length a.bc, .slice b.pA b.places.length b.pc, .int .i64 b.mux, .int .i64 b.ato, .slice b.cA b.chans.length b.cc, .slice b.fA b.funcs.length b.fc, .int .i64 b.start, .slice b.bA b.body.length b.bc, .int .i64 op, .int .i64 n] 42)).alloc (.cells #[.slice b.pA b.places.length b.pc, .int .i64 b.mux, .int .i64 b.ato, .slice b.cA b.chans.length b.cc, .slice b.fA b.funcs.length b.fc, .int .i64 b.start, .slice b.bA b.body.length b.bc] 31)).heap.size = w.heap.size + 1 + 1 := by simp
  have h1 := Co.box_new (w.alloc (.cells #[.slice a.pA a.places.length a.pc, .int .i64 a.mux, .int .i64 a.ato, .slice a.cA a.chans.length a.cc, .slice a.fA a.funcs.length a.fc, .int .i64 a.start, .slice a.bA a.body.length a.bc, .slice b.pA b.places.length b.pc, .int .i64 b.mux, .int .i64 b.ato, .slice b.cA b.chans.length b.cc, .slice b.fA b.funcs.length b.fc, .int .i64 b.start, .slice b.bA b.body.length b.bc, .int .i64 op, .int .i64 n] 42)) b 31
  have h2 := Co.box_new ((w.alloc (.cells #[.slice a.pA a.places.length a.pc, .int .i64 a.mux, .int .i64 a.ato, .slice a.cA a.chans.length a.cc, .slice a.fA a.funcs.length a.fc, .int .i64 a.start, .slice a.bA a.body.length a.bc, .slice b.pA b.places.length b.pc, .int .i64 b.mux, .int .i64 b.ato, .slice b.cA b.chans.length b.cc, .slice b.fA b.funcs.length b.fc, .int .i64 b.start, .slice b.bA b.body.length b.bc, .int .i64 op, .int .i64 n] 42)).alloc (.cells #[.slice b.pA b.places.length b.pc, .int .i64 b.mux, .int .i64 b.ato, .slice b.cA b.chans.length b.cc, .slice b.fA b.funcs.length b.fc, .int .i64 b.start, .slice b.bA b.body.length b.bc] 31)) a 31
  rw [e1] at h1
  rw [e2] at h2
  exact ⟨hB, ha.later hB, hb.later hB, h2.later (below_drew0 _), (h1.later (below_alloc (Below.refl _ _) (.cells #[.slice a.pA a.places.length a.pc, .int .i64 a.mux, .int .i64 a.ato, .slice a.cA a.chans.length a.cc, .slice a.fA a.funcs.length a.fc, .int .i64 a.start, .slice a.bA a.body.length a.bc] 31))).later (below_drew0 _)⟩
set_option maxRecDepth 100000 in
set_option maxHeartbeats 8000000 in
theorem same_law (a b : Co) (op n : Int) (w : World) (ha : a.Rep w) (hb : b.Rep w) (ec : Addr) (hE : Errs w ec) : Calls Tryd.prog 5 #[pairAgg a b op n] w (Ret w (.bool true)) := by
  unfold pairAgg
  have HP1 := Lib.hid (prR_start a b op n w ha hb)
  have HP2 := Lib.hid (prR_start2 a b op n w ha hb)
  have HE := Lib.hid hE
  clear ha hb hE
  go_enter Tryd.func5, Tryd.ntmps5
  go_upto_region 1 with fail
  go_cut [3, 4, 5, 6] (fun s3 s4 s5 s6 wx => ∃ ba bb : Nat, s3 = .pointer (some ⟨ba, 0, none⟩) ∧ s4 = .pointer (some ⟨bb, 0, none⟩) ∧ s5 = .int .i64 op ∧ s6 = .int .i64 n ∧ Hid (PrR w wx a b ba bb))
  case first =>
    go_region
    all_goals go_wp2_with fail
    · go_meet
      exact ⟨w.heap.size + 1, w.heap.size + 1 + 1, rfl, rfl, rfl, rfl, HP1⟩
    · go_meet
      exact ⟨w.heap.size + 1 + 1, w.heap.size + 1, rfl, rfl, rfl, rfl, HP2⟩
  clear HP1 HP2
  obtain ⟨ba, bb, rfl, rfl, rfl, rfl, HP⟩ := hcut
  go_wp2_with fail
  refine (alive_any _ ec (HE.out.later HP.out.bl)).mono ?_
  rintro e w1 ⟨rfl, hb1⟩
  replace HP := Lib.hid (HP.out.later hb1)
  clear hb1
  obtain ⟨p0, p1, p2, p3, p4, p5, p6⟩ := HP.out.xa
  obtain ⟨q0, q1, q2, q3, q4, q5, q6⟩ := HP.out.xb
  go_wp2_with fail
  refine (long_any a w1 HP.out.ra).mono ?_
  rintro e w2 ⟨rfl, hb2⟩
  replace HP := Lib.hid (HP.out.later hb2)
  clear hb2 p0 p1 p2 p3 p4 p5 p6 q0 q1 q2 q3 q4 q5 q6
  obtain ⟨z, hz⟩ : ∃ z, decide (20000 < coLen a) = z := ⟨_, rfl⟩
  rw [hz]
  clear hz
  cases z
  rotate_left
  · go_wp2_with fail
    go_ret
    exact ⟨rfl, HP.out.bl⟩
  obtain ⟨p0, p1, p2, p3, p4, p5, p6⟩ := HP.out.xa
  obtain ⟨q0, q1, q2, q3, q4, q5, q6⟩ := HP.out.xb
  go_wp2_with fail
  refine (long_any b w2 HP.out.rb).mono ?_
  rintro e w3 ⟨rfl, hb3⟩
  replace HP := Lib.hid (HP.out.later hb3)
  clear hb3 p0 p1 p2 p3 p4 p5 p6 q0 q1 q2 q3 q4 q5 q6
  obtain ⟨z, hz⟩ : ∃ z, decide (20000 < coLen b) = z := ⟨_, rfl⟩
  rw [hz]
  clear hz
  cases z
  rotate_left
  · go_wp2_with fail
    go_ret
    exact ⟨rfl, HP.out.bl⟩
  go_wp2_with fail
  refine (operator_any op n w3).mono ?_
  rintro e w4 ⟨rfl, hb4⟩
  replace HP := Lib.hid (HP.out.later hb4)
  clear hb4
  have hop := op_named op n
  have E84 : True := trivial
  obtain ⟨s, hs⟩ : ∃ s, opName op n = s := ⟨_, rfl⟩
  rw [hs] at hop ⊢
  clear hs
  go_upto_region 7 with fail
  go_cut [84] (fun s84 wx => s84 = .bool false ∧ Hid (PrR w wx a b ba bb))
  case rest =>
    clear HP hop E84
    obtain ⟨rfl, HP⟩ := hcut
    go_wp2_with fail
    obtain ⟨p0, p1, p2, p3, p4, p5, p6⟩ := HP.out.xa
    have hkw := HP.out.cells
    have hk2 := (HP.out.later (below_drew0 _)).cells
    have HS1 := Lib.hid (fun (W : World) (h : PrR w W a b ba bb) => same_any a b W h.ra h.rb)
    have HS2 := Lib.hid (fun (W : World) (h : PrR w W a b ba bb) => refSame_any a b W h.ra h.rb)
    have HS3 := Lib.hid (fun (W : World) (h : PrR w W a b ba bb) => same_any a a W h.ra h.ra)
    rw [sameB_refl] at HS3
    unfold Co.agg at HS1 HS2 HS3
    obtain ⟨t, ht⟩ : ∃ t, sameB a b = t := ⟨_, rfl⟩
    rw [ht] at HS1 HS2
    clear ht
    cases t
    all_goals
      go_region_held3 (fun w' => Hid (PrR w w' a b ba bb) ∧ w'.cell? ⟨ba, 0, none⟩ = some (.slice a.pA a.places.length a.pc) ∧ w'.cell? ⟨ba, 1, none⟩ = some (.int .i64 a.mux) ∧ w'.cell? ⟨ba, 2, none⟩ = some (.int .i64 a.ato) ∧ w'.cell? ⟨ba, 3, none⟩ = some (.slice a.cA a.chans.length a.cc) ∧ w'.cell? ⟨ba, 4, none⟩ = some (.slice a.fA a.funcs.length a.fc) ∧ w'.cell? ⟨ba, 5, none⟩ = some (.int .i64 a.start) ∧ w'.cell? ⟨ba, 6, none⟩ = some (.slice a.bA a.body.length a.bc) ∧ w'.cell? ⟨bb, 0, none⟩ = some (.slice b.pA b.places.length b.pc) ∧ w'.cell? ⟨bb, 1, none⟩ = some (.int .i64 b.mux) ∧ w'.cell? ⟨bb, 2, none⟩ = some (.int .i64 b.ato) ∧ w'.cell? ⟨bb, 3, none⟩ = some (.slice b.cA b.chans.length b.cc) ∧ w'.cell? ⟨bb, 4, none⟩ = some (.slice b.fA b.funcs.length b.fc) ∧ w'.cell? ⟨bb, 5, none⟩ = some (.int .i64 b.start) ∧ w'.cell? ⟨bb, 6, none⟩ = some (.slice b.bA b.body.length b.bc))
        (first | assumption)
        (first
        | (go_at_call 17; ((with_reducible refine (HS1.out _ (show (Hid (PrR w _ a b ba bb) ∧ _) by assumption).1.out).mono ?_); rintro e w' ⟨rfl, hbx⟩; have hkw := ((show (Hid (PrR w _ a b ba bb) ∧ _) by assumption).1.out.later hbx).cells))
        | (go_at_call 18; ((with_reducible refine (HS2.out _ (show (Hid (PrR w _ a b ba bb) ∧ _) by assumption).1.out).mono ?_); rintro e w' ⟨rfl, hbx⟩; have hkw := ((show (Hid (PrR w _ a b ba bb) ∧ _) by assumption).1.out.later hbx).cells))
        | (go_at_call 17; ((with_reducible refine (HS3.out _ (show (Hid (PrR w _ a b ba bb) ∧ _) by assumption).1.out).mono ?_); rintro e w' ⟨rfl, hbx⟩; have hkw := ((show (Hid (PrR w _ a b ba bb) ∧ _) by assumption).1.out.later hbx).cells)))
      all_goals
        go_wp2_with fail
        go_ret
        exact ⟨rfl, hkw.1.out.bl⟩
  rcases hop with ⟨h0, ⟨rfl, n1, n4, hu⟩ | ⟨rfl, n1, n4, hu⟩⟩ | ⟨rfl, n1, n2⟩
  · have k1 : ¬ s.toList = [] := fun e => h0 ((s_eq s []).2 e)
    have k2 : (s.toList == []) = false := beq_eq_false_iff_ne.2 k1
    have k3 : s.toList.isEmpty = false := by simpa using k1
    have HU := Lib.hid hu
    clear h0 hu
    go_wp2_with fail
    refine (unary_num s _).mono ?_
    rintro e w5 ⟨rfl, hb5⟩
    rw [HU.out]
    replace HP := Lib.hid (HP.out.later hb5)
    clear hb5
    go_wp2_with fail
    go_meet
    exact ⟨rfl, HP⟩
  · have k1 : ¬ s.toList = [] := fun e => h0 ((s_eq s []).2 e)
    have k2 : (s.toList == []) = false := beq_eq_false_iff_ne.2 k1
    have k3 : s.toList.isEmpty = false := by simpa using k1
    have HU := Lib.hid hu
    clear h0 hu
    go_wp2_with fail
    refine (binary_num s _).mono ?_
    rintro e w5 ⟨rfl, hb5⟩
    rw [HU.out]
    replace HP := Lib.hid (HP.out.later hb5)
    clear hb5
    go_wp2_with fail
    go_meet
    exact ⟨rfl, HP⟩
  · by_cases e10 : op = 10
    · subst e10
      have d1 : ¬ (1 ≤ n ∧ n ≤ 4) := fun h => n1 ⟨rfl, h⟩
      clear n1 n2
      by_cases g1 : 1 ≤ n
      · have d2 : decide (1 ≤ n) = true := decide_eq_true g1
        have d3 : decide (n ≤ 4) = false := decide_eq_false (by omega)
        clear d1
        go_wp2_with fail
        go_meet
        exact ⟨rfl, HP⟩
      · have d2 : decide (1 ≤ n) = false := decide_eq_false g1
        clear d1
        go_wp2_with fail
        go_meet
        exact ⟨rfl, HP⟩
    · by_cases e11 : op = 11
      · subst e11
        have d1 : ¬ (1 ≤ n ∧ n ≤ 11) := fun h => n2 ⟨rfl, h⟩
        clear n1 n2 e10
        by_cases g1 : 1 ≤ n
        · have d2 : decide (1 ≤ n) = true := decide_eq_true g1
          have d3 : decide (n ≤ 11) = false := decide_eq_false (by omega)
          clear d1
          go_wp2_with fail
          go_meet
          exact ⟨rfl, HP⟩
        · have d2 : decide (1 ≤ n) = false := decide_eq_false g1
          clear d1
          go_wp2_with fail
          go_meet
          exact ⟨rfl, HP⟩
      · have d1 : (op == 10) = false := by simpa using e10
        have d2 : (op == 11) = false := by simpa using e11
        clear n1 n2 e10 e11
        go_wp2_with fail
        go_meet
        exact ⟨rfl, HP⟩
end Go.Proofs.YtbpbimkadiobfaaDoor
