/-
  The argument of ValueMakes opened.
-/
import Derived.Test.YtdeabmijoaepcaaOpen
import Derived.Test.YtdeabmijoaepcaaAlive
namespace Go.Proofs.Ytdeabmijoaepcaa
open Go.RowKit Go.Stk

theorem cells_int : Try.prog.cellsOf 3 = 1 := by kernel_rfl
theorem cells_u64 : Try.prog.cellsOf 22 = 1 := by kernel_rfl
theorem cells_val : Try.prog.cellsOf 24 = 3 := by kernel_rfl
theorem cells_made : Try.prog.cellsOf 48 = 8 := by kernel_rfl
def valCells (v : Val) : List Value := [.int .i64 v.t, .int .i64 v.n, .int .u64 v.b]
set_option maxRecDepth 100000 in
theorem opn_val : Opn Try.prog 24 fun _ cs => ∃ v : Val, cs = valCells v :=
  (opn_struct Try.underlying24).mono fun w cs ⟨hl, hf⟩ => by
    rw [cells_val] at hl
    match cs, hl with
    | [c0, c1, c2], _ =>
      obtain ⟨n0, e0, _⟩ := hf 0 _ rfl _ (opn_int Try.underlying3)
      obtain ⟨n1, e1, _⟩ := hf 1 _ rfl _ (opn_int Try.underlying3)
      obtain ⟨n2, e2, _⟩ := hf 2 _ rfl _ (opn_int Try.underlying22)
      simp [cells_int, cells_u64] at e0 e1 e2
      subst e0 e1 e2
      exact ⟨⟨n0, n1, n2⟩, rfl⟩
set_option maxRecDepth 100000 in
theorem opn_made : Opn Try.prog 48 fun _ cs => ∃ (v u : Val) (n b : Int), cs = [.int .i64 v.t, .int .i64 v.n, .int .u64 v.b, .int .i64 u.t, .int .i64 u.n, .int .u64 u.b, .int .i64 n, .int .u64 b] :=
  (opn_struct Try.underlying48).mono fun w cs ⟨hl, hf⟩ => by
    rw [cells_made] at hl
    match cs, hl with
    | [c0, c1, c2, c3, c4, c5, c6, c7], _ =>
      obtain ⟨v, e0⟩ := hf 0 _ rfl _ opn_val
      obtain ⟨u, e1⟩ := hf 1 _ rfl _ opn_val
      obtain ⟨n, e2, _⟩ := hf 2 _ rfl _ (opn_int Try.underlying3)
      obtain ⟨b, e3, _⟩ := hf 3 _ rfl _ (opn_int Try.underlying22)
      simp [cells_int, cells_u64, cells_val, valCells] at e0 e1 e2 e3
      obtain ⟨rfl, rfl, rfl⟩ := e0
      obtain ⟨rfl, rfl, rfl⟩ := e1
      subst e2 e3
      exact ⟨v, u, n, b, rfl⟩
end Go.Proofs.Ytdeabmijoaepcaa
