/-
  What stands behind the comparison of two floats.
-/
import Derived.Test.YtdeabmijoaepcaaVal10
namespace Go.Proofs.Ytdeabmijoaepcaa
open Go.RowKit Go.Stk

/-- What stands behind the comparison of two floats: the answer's box. -/
def RelC (A : Nat) (a b : Val) (w : World) (t n q : Int) (is : Bool) (c10 c11 : Value) (wx : World) : Prop :=
  ∃ B : Nat, c10 = .pointer (some ⟨B, 0, none⟩) ∧ c11 = .bool is ∧ wx.cell? ⟨B, 0, none⟩ = some (.int .i64 t) ∧ wx.cell? ⟨B, 1, none⟩ = some (.int .i64 n) ∧ wx.cell? ⟨B, 2, none⟩ = some (.int .u64 q) ∧ A + 1 + 1 < B ∧ B < wx.heap.size ∧ Kb A a b w wx
theorem relC_alloc {A : Nat} {a b : Val} {w W : World} {t n q : Int} {is : Bool} {T : TypeId} (hk : Kb A a b w W) : RelC A a b w t n q is (.pointer (some ⟨W.heap.size, 0, none⟩)) (.bool is) (W.alloc (.cells #[.int .i64 t, .int .i64 n, .int .u64 q] T)) := by
  have h2 : (W.alloc (.cells #[.int .i64 t, .int .i64 n, .int .u64 q] T)).heap[W.heap.size]? = some (.cells #[.int .i64 t, .int .i64 n, .int .u64 q] T (0, 0)) := by
    show ((W.heap.push _))[W.heap.size]? = _
    simp only [Array.getElem?_push]; rw [if_pos trivial]
  exact ⟨_, rfl, rfl, by simp only [World.cell?, h2]; rfl, by simp only [World.cell?, h2]; rfl, by simp only [World.cell?, h2]; rfl, hk.bx.sz, by simp, hk.later ((Below.refl _ _).alloc (Nat.le_refl _) _)⟩
theorem relC_set {A B : Nat} {a b : Val} {w W : World} {t n q : Int} {is : Bool} (hk : Kb A a b w W) (hw : w.heap.size ≤ A) (lo : A + 1 + 1 < B) (l0 : W.cell? ⟨B, 0, none⟩ = some (.int .i64 0)) (l1 : W.cell? ⟨B, 1, none⟩ = some (.int .i64 0)) (l2 : W.cell? ⟨B, 2, none⟩ = some (.int .u64 0)) :
    RelC A a b w t n q is (.pointer (some ⟨B, 0, none⟩)) (.bool is) (((W.setCell ⟨B, 0, none⟩ (.int .i64 t)).setCell ⟨B, 1, none⟩ (.int .i64 n)).setCell ⟨B, 2, none⟩ (.int .u64 q)) := by
  have hB : B < W.heap.size := by
    rcases Nat.lt_or_ge B W.heap.size with h | h
    · exact h
    · simp [World.cell?, Array.getElem?_eq_none h] at l0
  exact ⟨B, rfl, rfl, by simp [go_sem, l0], by simp [go_sem, l1], by simp [go_sem, l2], lo, by simpa using hB, hk.set3 lo hw _ _ _ _ _ _⟩

/-- Two boxes, and what lay there before. -/
structure Kc (A : Nat) (a b : Val) (w W : World) : Prop where
  a0 : W.cell? ⟨A, 0, none⟩ = some (.int .i64 a.t)
  a1 : W.cell? ⟨A, 1, none⟩ = some (.int .i64 a.n)
  a2 : W.cell? ⟨A, 2, none⟩ = some (.int .u64 a.b)
  b0 : W.cell? ⟨A + 1, 0, none⟩ = some (.int .i64 b.t)
  b1 : W.cell? ⟨A + 1, 1, none⟩ = some (.int .i64 b.n)
  b2 : W.cell? ⟨A + 1, 2, none⟩ = some (.int .u64 b.b)
  bl : Below w.heap.size w W
theorem Kc.later {A : Nat} {a b : Val} {w W W' : World} (h : Kc A a b w W) (hb : Below W.heap.size W W') : Kc A a b w W' := ⟨cell_later hb h.a0, cell_later hb h.a1, cell_later hb h.a2, cell_later hb h.b0, cell_later hb h.b1, cell_later hb h.b2, below_next h.bl hb⟩
theorem Kc.cells {A : Nat} {a b : Val} {w W : World} (h : Kc A a b w W) : W.cell? ⟨A, 0, none⟩ = some (.int .i64 a.t) ∧ W.cell? ⟨A, 1, none⟩ = some (.int .i64 a.n) ∧ W.cell? ⟨A, 2, none⟩ = some (.int .u64 a.b) ∧
    W.cell? ⟨A + 1, 0, none⟩ = some (.int .i64 b.t) ∧ W.cell? ⟨A + 1, 1, none⟩ = some (.int .i64 b.n) ∧ W.cell? ⟨A + 1, 2, none⟩ = some (.int .u64 b.b) ∧ Kc A a b w W := ⟨h.a0, h.a1, h.a2, h.b0, h.b1, h.b2, h⟩
theorem Kc.set {A B : Nat} {a b : Val} {w W : World} (h : Kc A a b w W) (hB : A + 1 < B) (hw : w.heap.size ≤ A) (i : Nat) (v : Value) : Kc A a b w (W.setCell ⟨B, i, none⟩ v) :=
  ⟨by rw [cell_set_ne (by simp; omega)]; exact h.a0, by rw [cell_set_ne (by simp; omega)]; exact h.a1, by rw [cell_set_ne (by simp; omega)]; exact h.a2, by rw [cell_set_ne (by simp; omega)]; exact h.b0, by rw [cell_set_ne (by simp; omega)]; exact h.b1, by rw [cell_set_ne (by simp; omega)]; exact h.b2, h.bl.setCell (p := ⟨B, i, none⟩) (show w.heap.size ≤ B by omega) _⟩
theorem Kc.set3 {A B : Nat} {a b : Val} {w W : World} (h : Kc A a b w W) (hB : A + 1 < B) (hw : w.heap.size ≤ A) (i j k : Nat) (u v z : Value) : Kc A a b w (((W.setCell ⟨B, i, none⟩ u).setCell ⟨B, j, none⟩ v).setCell ⟨B, k, none⟩ z) := ((h.set hB hw i u).set hB hw j v).set hB hw k z
end Go.Proofs.Ytdeabmijoaepcaa
