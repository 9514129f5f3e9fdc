/-
  A code got of bytes: the deferred closure, and Get.
-/
import Derived.Test.YtbpbimkadiobfaaDoorGet3
import Derived.Defers
import Derived.Recover
import Derived.Laws.Pointers
import Derived.Stop.Asserts
namespace Go.Proofs.YtbpbimkadiobfaaDoor
open Go.RowKit Go.Stk

/-- What the closure leaves: the code at p zero, the error at q ErrCode. -/
def CatchR (w : World) (p q : Nat) (ec : Addr) (w' : World) : Prop := w'.heap[p]? = some (.cells #[.slice none 0 0, .int .i64 0, .int .i64 0, .slice none 0 0, .slice none 0 0, .int .i64 0, .slice none 0 0] 31 (0, 0)) ∧ w'.heap[q]? = some (.cells #[errV ec] 36 (0, 0)) ∧ Kept [p, q] w w'
set_option maxRecDepth 100000 in
theorem catch_short (p q : Nat) (x0 x1 x2 x3 x4 x5 x6 y : Value) (ec : Addr) (w : World) (hp : w.heap[p]? = some (.cells #[x0, x1, x2, x3, x4, x5, x6] 31 (0, 0))) (hq : w.heap[q]? = some (.cells #[y] 36 (0, 0))) (hpq : p ≠ q) (hE : Errs w ec) (older : List PanicEntry) :
    CallsD Tryd.prog 46 #[.pointer (some ⟨p, 0, none⟩), .pointer (some ⟨q, 0, none⟩)] (.panicking ({ v := .iface 83 (.agg #[]), recovered := false } :: older)) w fun e u' w' =>
      e = .returned (.tuple #[]) ∧ u' = .panicking ({ v := .iface 83 (.agg #[]), recovered := true } :: older) ∧ CatchR w p q ec w' := by
  obtain ⟨p0, p1, p2, p3, p4, p5, p6⟩ := blk7 hp
  have z0 := blk_free hp 0
  have z1 := blk_free hp 1
  have z2 := blk_free hp 2
  have z3 := blk_free hp 3
  have z4 := blk_free hp 4
  have z5 := blk_free hp 5
  have z6 := blk_free hp 6
  have q0 : w.cell? ⟨q, 0, none⟩ = some y := by rw [blk_cell hq]; rfl
  have y0 := blk_free hq 0
  have hpl := blk_lt hp
  have hql := blk_lt hq
  refine callsD_of_wpS Tryd.func46 rfl fun c₀ cs hu => ?_
  apply wpS_seq
  apply wpS_region
  simp [wpOpsS, go_sem, recoverD, hu, Tryd.ntmps46, Exit.thenS]
  have e : (#[Value.pointer (some ⟨p, 0, none⟩), Value.pointer (some ⟨q, 0, none⟩)] ++ ((Array.replicate 16 undef).setIfInBounds 3 (Value.iface 83 (Value.agg #[]))).setIfInBounds 0 (Value.iface 83 (Value.agg #[]))) = #[.pointer (some ⟨p, 0, none⟩), .pointer (some ⟨q, 0, none⟩), .iface 83 (.agg #[]), undef, undef, .iface 83 (.agg #[]), undef, undef, undef, undef, undef, undef, undef, undef, undef, undef, undef, undef] := by rfl
  rw [e]
  clear e
  refine wpS_of_wp ?_
  have hce := hE.c
  have h00 : 0 < w.heap.size := by omega
  have hce2 : (w.alloc (.cells #[] 83)).cell? ⟨0, 0, none⟩ = some (errV ec) := cell_later (below_alloc (Below.refl _ _) _) hE.c
  have hqp : q ≠ p := fun e => hpq e.symm
  have hwp : w.heap.size ≠ p := by omega
  have hwq : w.heap.size ≠ q := by omega
  unfold errV at hce hce2
  have HP := Lib.hid hp
  have HQ := Lib.hid hq
  clear hp hq
  have hta : ∀ W : World, (Instr.typeAssert (.iface 83 (.agg #[])) 20 83 true).run Tryd.prog W = .ok (.tuple #[.agg #[], .bool true]) W := fun W => by kernel_rfl
  go_upto_region 2 with fail
  go_wp2_with fail
  refine ⟨rfl, _, rfl, .tuple #[], by simp [results, Tryd.results46, go_sem], rfl, rfl, ?_⟩
  have e0 := blk_set HP.out 0 (.slice none 0 0)
  have e1 := blk_set e0 1 (.int .i64 0)
  have e2 := blk_set e1 2 (.int .i64 0)
  have e3 := blk_set e2 3 (.slice none 0 0)
  have e4 := blk_set e3 4 (.slice none 0 0)
  have e5 := blk_set e4 5 (.int .i64 0)
  have e6 := blk_set e5 6 (.slice none 0 0)
  have f0 := blk_set_ne HQ.out ⟨p, 0, none⟩ (.slice none 0 0) (by exact hqp)
  have f1 := blk_set_ne f0 ⟨p, 1, none⟩ (.int .i64 0) (by exact hqp)
  have f2 := blk_set_ne f1 ⟨p, 2, none⟩ (.int .i64 0) (by exact hqp)
  have f3 := blk_set_ne f2 ⟨p, 3, none⟩ (.slice none 0 0) (by exact hqp)
  have f4 := blk_set_ne f3 ⟨p, 4, none⟩ (.slice none 0 0) (by exact hqp)
  have f5 := blk_set_ne f4 ⟨p, 5, none⟩ (.int .i64 0) (by exact hqp)
  have f6 := blk_set_ne f5 ⟨p, 6, none⟩ (.slice none 0 0) (by exact hqp)
  have e8 := blk_set_ne e6 ⟨q, 0, none⟩ (errV ec) (by exact hpq)
  have f8 := blk_set f6 0 (errV ec)
  have hk := (((((((((((Kept.refl [p, q] w).set ⟨p, 0, none⟩ (.slice none 0 0) (.inl (by simp))).set ⟨p, 1, none⟩ (.int .i64 0) (.inl (by simp))).set ⟨p, 2, none⟩ (.int .i64 0) (.inl (by simp))).set ⟨p, 3, none⟩ (.slice none 0 0) (.inl (by simp))).set ⟨p, 4, none⟩ (.slice none 0 0) (.inl (by simp))).set ⟨p, 5, none⟩ (.int .i64 0) (.inl (by simp))).set ⟨p, 6, none⟩ (.slice none 0 0) (.inl (by simp))).set ⟨q, 0, none⟩ (errV ec) (.inl (by simp)))).next (below_alloc (Below.refl _ _) (.cells #[] 83)))
  exact ⟨blk_later (below_alloc (Below.refl _ _) _) (by simpa [errV] using e8), blk_later (below_alloc (Below.refl _ _) _) (by simpa [errV] using f8), hk⟩
/-- The closure with nothing to recover. -/
theorem catch_idle (p q : Addr) (w : World) :
    CallsD Tryd.prog 46 #[.pointer (some p), .pointer (some q)] .returning w fun e u' w' => e = .returned (.tuple #[]) ∧ u' = .returning ∧ w' = w := by
  refine callsD_of_wpS Tryd.func46 rfl fun c₀ cs hu => ?_
  apply wpS_seq
  apply wpS_region
  simp [wpOpsS, go_sem, recoverD, hu, Tryd.ntmps46, Exit.thenS]
  have e : (#[Value.pointer (some p), Value.pointer (some q)] ++ ((Array.replicate 16 undef).setIfInBounds 3 Value.nilIface).setIfInBounds 0 Value.nilIface) = #[.pointer (some p), .pointer (some q), .nilIface, undef, undef, .nilIface, undef, undef, undef, undef, undef, undef, undef, undef, undef, undef, undef, undef] := by rfl
  rw [e]
  clear e
  refine wpS_of_wp ?_
  go_wp2_with fail
  refine ⟨rfl, .returning, ?_, .tuple #[], by simp [results, Tryd.results46, go_sem], rfl, rfl, rfl⟩
  cases c₀
  simp_all
end Go.Proofs.YtbpbimkadiobfaaDoor
