/-
  Lists of calls as arguments.
-/
import Derived.Test.YtpjphmpebegidaaDoorOpen
import Derived.Test.YtpjphmpebegidaaDoorPool22
namespace Go.Proofs.YtpjphmpebegidaaDoor
open Go.RowKit Go.Stk

theorem cells_int : Tryd.prog.cellsOf 3 = 1 := by kernel_rfl
theorem cells_op : Tryd.prog.cellsOf 47 = 4 := by kernel_rfl
set_option maxRecDepth 100000 in
theorem opn_op : Opn Tryd.prog 47 fun _ cs => ∃ o : Op4, cs = o.cells ∧ (o.t ≤ 9223372036854775807 ∧ o.v ≤ 9223372036854775807) :=
  (opn_struct Tryd.underlying47).mono fun w cs ⟨hl, hf⟩ => by
    rw [cells_op] at hl
    match cs, hl with
    | [c0, c1, c2, c3], _ =>
      obtain ⟨n0, e0, _⟩ := hf 0 _ rfl _ (opn_i64 Tryd.underlying3)
      obtain ⟨n1, e1, _⟩ := hf 1 _ rfl _ (opn_i64 Tryd.underlying3)
      obtain ⟨n2, e2, _, b2⟩ := hf 2 _ rfl _ (opn_i64 Tryd.underlying3)
      obtain ⟨n3, e3, _, b3⟩ := hf 3 _ rfl _ (opn_i64 Tryd.underlying3)
      simp [cells_int] at e0 e1 e2 e3
      subst e0 e1 e2 e3
      exact ⟨⟨n0, n1, n2, n3⟩, rfl, b2, b3⟩
theorem opn_ops : Opn Tryd.prog 44 fun w cs => ∃ A c, ∃ os : List Op4, cs = [.slice A os.length c] ∧ os.length ≤ c ∧ c ≤ maxLen ∧ (A = none → c = 0) ∧ Rs w A (ocells os) ∧ ∀ o ∈ os, o.t ≤ 9223372036854775807 ∧ o.v ≤ 9223372036854775807 :=
  opn_slice Tryd.underlying44 cells_op (by omega) Op4.cells (fun _ => rfl) (fun _ o => o.t ≤ 9223372036854775807 ∧ o.v ≤ 9223372036854775807) opn_op
end Go.Proofs.YtpjphmpebegidaaDoor
