/-
  Operators by their numbers.
-/
import Derived.Test.YtbpbimkadiobfaaDoorCode1
import Derived.Test.YtbpbimkadiobfaaDoorOpen
import Derived.ChangeMaps4
namespace Go.Proofs.YtbpbimkadiobfaaDoor
open Go.RowKit Go.Stk

/-- The world with one block turned. -/
def putBlk (w : World) (b : Nat) (o : Obj) : World := { w with heap := w.heap.setIfInBounds b o }
theorem putBlk_at {w : World} {b : Nat} {o : Obj} (h : b < w.heap.size) : (putBlk w b o).heap[b]? = some o := by
  simp [putBlk, h]
theorem putBlk_below {w W : World} {b : Nat} {o : Obj} (h : Below w.heap.size w W) (hb : w.heap.size ≤ b) : Below w.heap.size w (putBlk W b o) :=
  ⟨h.os, h.tape, h.output, by have := h.size; simp [putBlk]; omega, fun k hk => by
    have : (putBlk W b o).heap[k]? = W.heap[k]? := by simp [putBlk, Array.getElem?_setIfInBounds]; omega
    rw [this]; exact h.block k hk⟩
theorem putBlk_rd {w : World} {b g : Nat} {o : Obj} {cs : List Value} (h : Rd w (some ⟨g, 0, none⟩) cs) (hne : g ≠ b) : Rd (putBlk w b o) (some ⟨g, 0, none⟩) cs :=
  ⟨h.1, fun hl => by
    obtain ⟨b', off, e, hc⟩ := h.2 hl
    refine ⟨b', off, e, fun j hj => ?_⟩
    simp at e
    obtain ⟨rfl, rfl⟩ := e
    rw [← hc j hj]
    refine World.cell?_of_block ?_
    show (w.heap.setIfInBounds b o)[g]? = w.heap[g]?
    rw [Array.getElem?_setIfInBounds, if_neg (Ne.symm hne)]⟩
theorem putBlk_size (w : World) (b : Nat) (o : Obj) : (putBlk w b o).heap.size = w.heap.size := by simp [putBlk]
section
variable {w : World} {r : Nat}
theorem put_first {v : Value} (h : w.heap[r]? = some (.map #[] 0)) : (Instr.mapUpdate 66 (.map (some r)) (.int .i64 10) v).run Tryd.prog w = .ok () (putBlk w r (.map #[⟨.int .i64 10, v, 0⟩] 1)) := by
  have hk := MapKept.run_checkKey (P := Tryd.prog) (w := w) (kt := 3) (k := .int .i64 10) Tryd.underlying3 rfl false 9999
  have hf : (Instr.findKey 3 (.int .i64 10) []).run Tryd.prog w = .ok none w := MapKept.run_findKey Tryd.underlying3 rfl
  simp [Instr.mapUpdate, run_underlying Tryd.underlying66, MapKept.run_getObj_map h, hk, hf, MapKept.run_setObj_map _ h, Result.andThen, putBlk]
theorem put_second {v u : Value} (h : w.heap[r]? = some (.map #[⟨.int .i64 10, v, 0⟩] 1)) : (Instr.mapUpdate 66 (.map (some r)) (.int .i64 11) u).run Tryd.prog w = .ok () (putBlk w r (.map #[⟨.int .i64 10, v, 0⟩, ⟨.int .i64 11, u, 1⟩] 2)) := by
  have hk := MapKept.run_checkKey (P := Tryd.prog) (w := w) (kt := 3) (k := .int .i64 11) Tryd.underlying3 rfl false 9999
  have hf : (Instr.findKey 3 (.int .i64 11) [⟨.int .i64 10, v, 0⟩]).run Tryd.prog w = .ok none w := MapKept.run_findKey Tryd.underlying3 rfl
  simp [Instr.mapUpdate, run_underlying Tryd.underlying66, MapKept.run_getObj_map h, hk, hf, MapKept.run_setObj_map _ h, Result.andThen, putBlk]
theorem zero_slice (w : World) : (zeroValue 64).run Tryd.prog w = .ok (.slice none 0 0) w := by kernel_rfl
theorem get_op {v u : Value} (h : w.heap[r]? = some (.map #[⟨.int .i64 10, v, 0⟩, ⟨.int .i64 11, u, 1⟩] 2)) (x : Int) : (Instr.lookup 66 (.map (some r)) (.int .i64 x) false).run Tryd.prog w = .ok (if x = 10 then v else if x = 11 then u else .slice none 0 0) w := by
  have hk := MapKept.run_checkKey (P := Tryd.prog) (w := w) (kt := 3) (k := .int .i64 x) Tryd.underlying3 rfl false 9999
  have hz := zero_slice w
  by_cases h1 : x = 10
  · subst h1
    have hf : (Instr.findKey 3 (.int .i64 10) [⟨.int .i64 10, v, 0⟩, ⟨.int .i64 11, u, 1⟩]).run Tryd.prog w = .ok (some (0, v)) w := MapKept.run_findKey Tryd.underlying3 rfl
    simp [Instr.lookup, run_underlying Tryd.underlying66, MapKept.run_getObj_map h, hk, hf, Result.andThen]
  · rw [if_neg h1]
    by_cases h2 : x = 11
    · subst h2
      have hf : (Instr.findKey 3 (.int .i64 11) [⟨.int .i64 10, v, 0⟩, ⟨.int .i64 11, u, 1⟩]).run Tryd.prog w = .ok (some (1, u)) w := MapKept.run_findKey Tryd.underlying3 rfl
      simp [Instr.lookup, run_underlying Tryd.underlying66, MapKept.run_getObj_map h, hk, hf, Result.andThen]
    · rw [if_neg h2]
      have hf : (Instr.findKey 3 (.int .i64 x) [⟨.int .i64 10, v, 0⟩, ⟨.int .i64 11, u, 1⟩]).run Tryd.prog w = .ok none w := MapKept.run_findKey Tryd.underlying3 (by simp [Instr.findNow, Instr.sameNow, show (x == 10) = false by simpa using h1, show (x == 11) = false by simpa using h2])
      simp [Instr.lookup, run_underlying Tryd.underlying66, MapKept.run_getObj_map h, hk, hf, hz, Result.andThen]
end
/-- The operator of a number. -/
def opName (op a : Int) : ByteArray :=
  if a < 0 then ⟨#[]⟩ else if op = 10 then unaryL.getD a.toNat ⟨#[]⟩ else if op = 11 then binaryL.getD a.toNat ⟨#[]⟩ else ⟨#[]⟩
set_option maxRecDepth 100000 in
set_option maxHeartbeats 2000000 in
theorem operator_any (op a : Int) (w : World) : Calls Tryd.prog 16 #[.int .i64 op, .int .i64 a] w (Ret w (.string (opName op a))) := by
  have hmm := @run_makeMap Tryd.prog
  go_enter Tryd.func16, Tryd.ntmps16
  go_wp2_with fail
  refine (unaries_any _).mono ?_
  rintro e w1 ⟨g1, rfl, hrd1, hg1, hb1⟩
  clear hmm
  have m0 : w1.heap[w.heap.size]? = some (.map #[] 0) := blk_later hb1 (blk_new w _)
  have r1 := put_first (v := .slice (some ⟨g1, 0, none⟩) unaryL.length unaryL.length) m0
  have B1 := Lib.hid (putBlk_below (o := .map #[⟨.int .i64 10, .slice (some ⟨g1, 0, none⟩) unaryL.length unaryL.length, 0⟩] 1) (below_next (below_alloc (Below.refl w.heap.size w) (.map #[] 0)) hb1) (Nat.le_refl _))
  have hsz := blk_lt m0
  have M1 := Lib.hid (putBlk_at (w := w1) (o := .map #[⟨.int .i64 10, .slice (some ⟨g1, 0, none⟩) unaryL.length unaryL.length, 0⟩] 1) hsz)
  have RD1 := Lib.hid hrd1
  simp at hg1
  clear hrd1 hb1 m0
  go_wp2_with fail
  refine (binaries_any _).mono ?_
  rintro e w2 ⟨g2, rfl, hrd2, hg2, hb2⟩
  clear r1
  have m1 := blk_later hb2 M1.out
  have r2 := put_second (u := .slice (some ⟨g2, 0, none⟩) binaryL.length binaryL.length) m1
  have B2 := Lib.hid (putBlk_below (o := .map #[⟨.int .i64 10, .slice (some ⟨g1, 0, none⟩) unaryL.length unaryL.length, 0⟩, ⟨.int .i64 11, .slice (some ⟨g2, 0, none⟩) binaryL.length binaryL.length, 1⟩] 2) (below_next B1.out hb2) (Nat.le_refl _))
  have hsz2 := blk_lt m1
  have M2 := Lib.hid (putBlk_at (w := w2) (o := .map #[⟨.int .i64 10, .slice (some ⟨g1, 0, none⟩) unaryL.length unaryL.length, 0⟩, ⟨.int .i64 11, .slice (some ⟨g2, 0, none⟩) binaryL.length binaryL.length, 1⟩] 2) hsz2)
  have r3 := get_op M2.out op
  have hg2' : w1.heap.size ≤ g2 := by rw [putBlk_size] at hg2; exact hg2
  have RD3 := Lib.hid (putBlk_rd (o := .map #[⟨.int .i64 10, .slice (some ⟨g1, 0, none⟩) unaryL.length unaryL.length, 0⟩, ⟨.int .i64 11, .slice (some ⟨g2, 0, none⟩) binaryL.length binaryL.length, 1⟩] 2) (b := w.heap.size) (Rd.later (putBlk_rd (o := .map #[⟨.int .i64 10, .slice (some ⟨g1, 0, none⟩) unaryL.length unaryL.length, 0⟩] 1) (b := w.heap.size) RD1.out (by omega)) hb2) (by omega))
  have RD4 := Lib.hid (putBlk_rd (o := .map #[⟨.int .i64 10, .slice (some ⟨g1, 0, none⟩) unaryL.length unaryL.length, 0⟩, ⟨.int .i64 11, .slice (some ⟨g2, 0, none⟩) binaryL.length binaryL.length, 1⟩] 2) (b := w.heap.size) hrd2 (by omega))
  clear hrd2 hb2 m1 hsz hsz2 B1 M1 RD1 hg1 hg2 hg2' M2
  generalize putBlk w2 w.heap.size (.map #[⟨.int .i64 10, .slice (some ⟨g1, 0, none⟩) unaryL.length unaryL.length, 0⟩, ⟨.int .i64 11, .slice (some ⟨g2, 0, none⟩) binaryL.length binaryL.length, 1⟩] 2) = W at B2 r2 r3 RD3 RD4
  by_cases h10 : op = 10
  · subst h10
    simp only [if_true] at r3
    by_cases h0 : a < 0
    · have E : Hid (opName 10 a = ⟨#[]⟩) := by show _ = _; simp [opName, h0]
      go_wp2_with fail
      go_ret
      exact ⟨by rw [E.out]; rfl, B2.out⟩
    · have d0 : decide (a < 0) = false := decide_eq_false h0
      by_cases h5 : 5 ≤ a
      · have E : Hid (opName 10 a = ⟨#[]⟩) := by
          have : unaryL[a.toNat]? = none := List.getElem?_eq_none (show unaryL.length ≤ a.toNat by have : unaryL.length = 5 := rfl; omega)
          show _ = _
          simp [opName, h0, this]
        have d5 : decide ((unaryL.length : Int) ≤ a) = true := decide_eq_true h5
        have d6 : decide ((5 : Int) ≤ a) = true := decide_eq_true h5
        go_wp2_with fail
        go_ret
        exact ⟨by rw [E.out]; rfl, B2.out⟩
      · obtain ⟨x, hx⟩ : ∃ x, unaryL[a.toNat]? = some x := ⟨_, List.getElem?_eq_getElem (show a.toNat < unaryL.length by have : unaryL.length = 5 := rfl; omega)⟩
        have E : Hid (opName 10 a = x) := by show _ = _; simp [opName, h0, hx]
        obtain ⟨b, off, eb, hc⟩ := strs_at RD3.out a.toNat x hx
        have d5 : decide ((unaryL.length : Int) ≤ a) = false := decide_eq_false h5
        have d6 : decide ((5 : Int) ≤ a) = false := decide_eq_false h5
        have a0 : 0 ≤ a := by omega
        have a5 : a < 5 := by omega
        have a6 : a < (unaryL.length : Int) := by show a < 5; omega
        simp at eb
        obtain ⟨rfl, rfl⟩ := eb
        simp only [Nat.zero_add] at hc
        clear hx h5
        go_wp2_with fail
        go_ret
        exact ⟨by rw [E.out]; rfl, B2.out⟩
  by_cases h11 : op = 11
  · subst h11
    simp only [show ¬ (11 : Int) = 10 by omega, if_true, if_false] at r3
    by_cases h0 : a < 0
    · have E : Hid (opName 11 a = ⟨#[]⟩) := by show _ = _; simp [opName, h0]
      go_wp2_with fail
      go_ret
      exact ⟨by rw [E.out]; rfl, B2.out⟩
    · have d0 : decide (a < 0) = false := decide_eq_false h0
      by_cases h5 : 12 ≤ a
      · have E : Hid (opName 11 a = ⟨#[]⟩) := by
          have : binaryL[a.toNat]? = none := List.getElem?_eq_none (show binaryL.length ≤ a.toNat by have : binaryL.length = 12 := rfl; omega)
          show _ = _
          simp [opName, h0, this]
        have d5 : decide ((binaryL.length : Int) ≤ a) = true := decide_eq_true h5
        have d6 : decide ((12 : Int) ≤ a) = true := decide_eq_true h5
        go_wp2_with fail
        go_ret
        exact ⟨by rw [E.out]; rfl, B2.out⟩
      · obtain ⟨x, hx⟩ : ∃ x, binaryL[a.toNat]? = some x := ⟨_, List.getElem?_eq_getElem (show a.toNat < binaryL.length by have : binaryL.length = 12 := rfl; omega)⟩
        have E : Hid (opName 11 a = x) := by show _ = _; simp [opName, h0, hx]
        obtain ⟨b, off, eb, hc⟩ := strs_at RD4.out a.toNat x hx
        have d5 : decide ((binaryL.length : Int) ≤ a) = false := decide_eq_false h5
        have d6 : decide ((12 : Int) ≤ a) = false := decide_eq_false h5
        have a0 : 0 ≤ a := by omega
        have a5 : a < 12 := by omega
        have a6 : a < (binaryL.length : Int) := by show a < 12; omega
        simp at eb
        obtain ⟨rfl, rfl⟩ := eb
        simp only [Nat.zero_add] at hc
        clear hx h5
        go_wp2_with fail
        go_ret
        exact ⟨by rw [E.out]; rfl, B2.out⟩
  have E : Hid (opName op a = ⟨#[]⟩) := by show _ = _; simp [opName, h10, h11]
  rw [if_neg h10, if_neg h11] at r3
  by_cases h0 : a < 0
  · go_wp2_with fail
    go_ret
    exact ⟨by rw [E.out]; rfl, B2.out⟩
  · have d0 : decide (a < 0) = false := decide_eq_false h0
    have d1 : decide (0 ≤ a) = true := decide_eq_true (by omega)
    go_wp2_with fail
    go_ret
    exact ⟨by rw [E.out]; rfl, B2.out⟩
end Go.Proofs.YtbpbimkadiobfaaDoor
