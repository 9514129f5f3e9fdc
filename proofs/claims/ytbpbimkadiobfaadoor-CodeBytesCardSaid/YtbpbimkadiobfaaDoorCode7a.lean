/-
  What the shape grants an instruction.
-/
import Derived.Test.YtbpbimkadiobfaaDoorCode5
namespace Go.Proofs.YtbpbimkadiobfaaDoor
open Go.RowKit Go.Stk
/-- What the shape grants. -/
structure Bnd (c : Co) : Prop where
  np : c.places.length ≤ 128
  m0 : 0 ≤ c.mux
  m1 : c.mux ≤ 32
  a0 : 0 ≤ c.ato
  a1 : c.ato ≤ 32
  nc : c.chans.length ≤ 32
  nf : c.funcs.length ≤ 16
  nb : c.body.length ≤ 8192
theorem below_drew2 {w W : World} (h : Below w.heap.size w W) : Below w.heap.size w W.drew := h.drew
theorem below_set3 {w W : World} (h : Below w.heap.size w W) {k : Nat} (v : Value) (i : Nat) (hk : w.heap.size ≤ k := by simp; omega) : Below w.heap.size w (W.setCell ⟨k, i, none⟩ v) := h.setCell hk _
end Go.Proofs.YtbpbimkadiobfaaDoor
