/-
  The chapter's example; CodeNames.
-/
import Derived.Test.YtbpbimkadiobfaaDoorCode10
namespace Go.Proofs.YtbpbimkadiobfaaDoor
open Go.RowKit Go.Stk

/-- One function, a list of instructions. -/
def oneFn (g : Nat) (bA : Option Addr) (bc : Nat) (body : List Ins) : Co := ⟨none, 0, [], 0, 0, none, 0, [], some ⟨g, 0, none⟩, 1, [⟨0, 0, none, 0, []⟩], 0, bA, bc, body⟩
theorem rs_nil (w : World) (A : Option Addr) : Rs w A [] := fun h => by simp at h
theorem oneFn_rep {w : World} {g : Nat} {bA : Option Addr} {bc : Nat} {body : List Ins} {T : TypeId} (hg : w.heap[g]? = some (.cells #[.int .i64 0, .int .i64 0, .slice none 0 0] T (0, 0))) (hb : Rs w bA (icells body)) (hl : body.length ≤ 140737488351232) : (oneFn g bA bc body).Rep w := by
  refine ⟨rs_nil _ _, rs_nil _ _, fun _ => ⟨g, 0, rfl, fun j hj => ?_⟩, fun f hf => ?_, hb, by simp [oneFn], by simp [oneFn], by simp [oneFn], hl, by simp [oneFn]⟩
  · rw [blk_cell hg]
    simp [oneFn, fcells, Fn.cells] at hj ⊢
  · simp [oneFn] at hf
    subst hf
    exact ⟨rs_nil _ _, by simp⟩
theorem rs_one {w : World} {g : Nat} {x : Ins} {T : TypeId} (h : w.heap[g]? = some (.cells #[.int .i64 x.op, .int .i64 x.a, .int .i64 x.b, .int .u64 x.bits, .int .i64 x.at_] T (0, 0))) : Rs w (some ⟨g, 0, none⟩) (icells [x]) := fun _ => ⟨g, 0, rfl, fun j hj => by
  rw [blk_cell h]
  simp [icells, Ins.cells] at hj ⊢⟩
theorem alive_check (g : Nat) (bA : Option Addr) : checkB (oneFn g bA 1 [⟨25, 0, 0, 0, 0⟩]) = true := by rfl
set_option maxRecDepth 100000 in
set_option maxHeartbeats 4000000 in
theorem alive_any (w : World) (ec : Addr) (hE : Errs w ec) : Calls Tryd.prog 9 #[] w (Ret w (.bool true)) := by
  have HE := Lib.hid hE
  clear hE
  go_enter Tryd.func9, Tryd.ntmps9
  go_wp2_with fail
  obtain ⟨W, hW⟩ : ∃ W, W = (((w.alloc (.cells #[.int .i64 0, .int .i64 0, .slice none 0 0] 26)).alloc (.cells #[.int .i64 25, .int .i64 0, .int .i64 0, .int .u64 0, .int .i64 0] 34)).alloc (.cells #[.slice none 0 0, .int .i64 0, .int .i64 0, .slice none 0 0, .slice (some ⟨w.heap.size, 0, none⟩) 1 1, .int .i64 0, .slice (some ⟨w.heap.size + 1, 0, none⟩) 1 1] 31)) := ⟨_, rfl⟩
  have HB : Hid (Below w.heap.size w W) := by rw [hW]; exact below_alloc (below_alloc (below_alloc (Below.refl _ _) _) _) _
  have HR : Hid ((oneFn w.heap.size (some ⟨w.heap.size + 1, 0, none⟩) 1 [⟨25, 0, 0, 0, 0⟩]).Rep W) := by
    rw [hW]
    exact oneFn_rep (T := 26) (blk_alloc (blk_alloc (blk_new w _) _) _) (rs_one (T := 34) (blk_alloc (blk_new2 w _ _) _)) (by simp)
  have HX : Hid (Co.Box W (w.heap.size + 1 + 1) (oneFn w.heap.size (some ⟨w.heap.size + 1, 0, none⟩) 1 [⟨25, 0, 0, 0, 0⟩])) := by
    have h := Co.box_new ((w.alloc (.cells #[.int .i64 0, .int .i64 0, .slice none 0 0] 26)).alloc (.cells #[.int .i64 25, .int .i64 0, .int .i64 0, .int .u64 0, .int .i64 0] 34)) (oneFn w.heap.size (some ⟨w.heap.size + 1, 0, none⟩) 1 [⟨25, 0, 0, 0, 0⟩]) 31
    rw [show ((w.alloc (.cells #[.int .i64 0, .int .i64 0, .slice none 0 0] 26)).alloc (.cells #[.int .i64 25, .int .i64 0, .int .i64 0, .int .u64 0, .int .i64 0] 34)).heap.size = w.heap.size + 1 + 1 by simp] at h
    rw [hW]
    exact h
  rw [← hW]
  clear hW
  refine (binary_num _ W).mono ?_
  rintro e w1 ⟨rfl, hb1⟩
  rw [show binR (⟨#[61, 61]⟩ : ByteArray).toList = 6 by rw [ByteArray.toList_eq]; decide]
  have HB1 := Lib.hid hb1
  clear hb1
  go_wp2_with fail
  refine (operator_any 10 3 w1).mono ?_
  rintro e w2 ⟨rfl, hb2⟩
  rw [show opName 10 3 = ⟨#[105, 110, 116]⟩ by rfl]
  have HB2 := Lib.hid (below_next HB1.out hb2)
  obtain ⟨q0, q1, q2, q3, q4, q5, q6⟩ := HX.out.later HB2.out
  clear hb2
  go_wp2_with fail
  refine (check_any (oneFn w.heap.size (some ⟨w.heap.size + 1, 0, none⟩) 1 [⟨25, 0, 0, 0, 0⟩]) w2 (HR.out.later HB2.out) ec (HE.out.later (below_next HB.out HB2.out))).mono ?_
  rintro e w3 ⟨rfl, hb3⟩
  rw [show checkV (oneFn w.heap.size (some ⟨w.heap.size + 1, 0, none⟩) 1 [⟨25, 0, 0, 0, 0⟩]) ec = .nilIface by unfold checkV; rw [alive_check]; rfl]
  have HB3 := Lib.hid (below_next (below_next HB.out HB2.out) hb3)
  clear hb3 q0 q1 q2 q3 q4 q5 q6
  go_wp2_with fail
  go_ret
  exact ⟨rfl, HB3.out⟩
theorem names_law (s : ByteArray) (w : World) (ec : Addr) (hE : Errs w ec) : Calls Tryd.prog 4 #[.string s] w (Ret w (.bool true)) := by
  have HA := Lib.hid (alive_any w ec hE)
  clear hE
  go_enter Tryd.func4, Tryd.ntmps4
  go_wp2_with fail
  refine HA.out.mono ?_
  rintro e w1 ⟨rfl, hb1⟩
  have HB1 := Lib.hid hb1
  clear hb1 HA
  go_wp2_with fail
  refine (unary_num s w1).mono ?_
  rintro e w2 ⟨rfl, hb2⟩
  have HB2 := Lib.hid (below_next HB1.out hb2)
  clear hb2
  go_wp2_with fail
  refine (unary_ref s w2).mono ?_
  rintro e w3 ⟨rfl, hb3⟩
  have HB3 := Lib.hid (below_next HB2.out hb3)
  clear hb3
  go_wp2_with fail
  refine (binary_num s w3).mono ?_
  rintro e w4 ⟨rfl, hb4⟩
  have HB4 := Lib.hid (below_next HB3.out hb4)
  clear hb4
  go_wp2_with fail
  refine (binary_ref s w4).mono ?_
  rintro e w5 ⟨rfl, hb5⟩
  have HB5 := Lib.hid (below_next HB4.out hb5)
  clear hb5
  go_wp2_with fail
  go_ret
  exact ⟨rfl, HB5.out⟩
end Go.Proofs.YtbpbimkadiobfaaDoor
