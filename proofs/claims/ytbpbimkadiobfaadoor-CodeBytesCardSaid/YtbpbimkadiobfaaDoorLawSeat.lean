/-
  Closed facts of this seat that every card of it uses.
-/
import Derived.Test.YtbpbimkadiobfaaDoorRows
import Derived.Test.YtbpbimkadiobfaaDoorLawBase
namespace Go.Proofs.YtbpbimkadiobfaaDoor.Seat
open Go.ChangeShapes Go.WideShapes Go.ChangeAt Go.RowKit Go.Stk

theorem own : ownKnob Tryd.prog.godebug = none := by kernel_rfl
theorem laidOut : laidOutB Tryd.prog = true := by kernel_rfl
theorem cellsTe : Tryd.prog.cellsOf 141 = 1 := by kernel_rfl
theorem cellsTs : Tryd.prog.cellsOf 9 = 1 := by kernel_rfl
theorem star : "*" ++ "errors.errorString" = "*errors.errorString" := by decide
theorem rowTp (u : TypeId) (h : Tryd.prog.typeName? 3 u = some "*errors.errorString") : u = 116 :=
  typeName_ptr_named (nm := "errors.errorString") (by rw [star]; kernel_rfl) (by kernel_rfl) (by decide) u (by rw [star]; exact h)
theorem cells3 : Tryd.prog.cellsOf 3 = 1 := by kernel_rfl
noncomputable def low : Nat := (World.holding Tryd.prog default ⟨#[], #[], []⟩).heap.size
theorem sent_of {W : World} (l : List (String × Nat × List UInt8)) (hg : ∀ x ∈ l, Tryd.prog.globalNamed x.1 = some x.2.1 ∧ (Tryd.prog.globals[x.2.1]?).map (·.type) = some 36)
    (h : laidMet Tryd.prog (l.map fun x => (x.1, errD x.2.2)) W) : ∃ ads, Sent W 116 (l.map fun x => x.2.1) ads := by
  obtain ⟨ps, hl, hnd, hr⟩ := h
  obtain ⟨ads, hs, _⟩ := sent_list Tryd.underlying36 rowTp Tryd.underlying116 Tryd.underlying141 rfl rfl Tryd.underlying9 cellsTe cellsTs l ps hl hnd hr hg
  exact ⟨ads, hs⟩
end Go.Proofs.YtbpbimkadiobfaaDoor.Seat
