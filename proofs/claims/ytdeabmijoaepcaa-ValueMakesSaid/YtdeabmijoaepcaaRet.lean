/-
  What a function that only makes memory of its own leaves behind.
-/
import Derived.Test.YtdeabmijoaepcaaBase
namespace Go.Stk
open Go.RowKit

/-- Returns v; what lay there is as it was. -/
def Ret (w : World) (v : Value) (e : Ending) (w' : World) : Prop := e = .returned v ∧ Below w.heap.size w w'
theorem below_alloc {w W : World} (h : Below w.heap.size w W) (o : Obj) : Below w.heap.size w (W.alloc o) := h.alloc h.size o
theorem below_next {w W W' : World} (h : Below w.heap.size w W) (k : Below W.heap.size W W') : Below w.heap.size w W' := below_then h h.size k
theorem below_cell {w W : World} (h : Below w.heap.size w W) (i : Nat) (v : Value) (o : Obj) : Below w.heap.size w ((W.alloc o).setCell ⟨W.heap.size, i, none⟩ v) := (below_alloc h o).setCell h.size _
theorem below_set {w W : World} (h : Below w.heap.size w W) (i : Nat) (v : Value) : Below w.heap.size w (W.setCell ⟨w.heap.size, i, none⟩ v) := h.setCell (Nat.le_refl _) _
theorem ret_quiet {P : Program} {f : FuncId} {args : Array Value} {w : World} {v : Value} (h : Calls P f args w fun e w' => e = .returned v ∧ w = w') : Calls P f args w (Ret w v) :=
  h.mono fun _ _ ⟨h1, h2⟩ => ⟨h1, h2 ▸ Below.refl _ _⟩

/-- A value of the program's language: its type, its number, its bits. -/
structure Val where
  t : Int
  n : Int
  b : Int
  deriving DecidableEq
def Val.agg (v : Val) : Value := .agg #[.int .i64 v.t, .int .i64 v.n, .int .u64 v.b]
def Val.cells (v : Val) : List Value := [.int .i64 v.t, .int .i64 v.n, .int .u64 v.b]
def Val.zero : Val := ⟨0, 0, 0⟩
/-- In form. -/
def Val.good (v : Val) : Bool := if v.t = 1 then v.b == 0 else if v.t = 2 then v.n == 0 else if v.t = 3 then v.b == 0 && (v.n == 0 || v.n == 1) else false
def zeroOf (t : Int) : Val := if t < 1 ∨ 3 < t then ⟨0, 0, 0⟩ else ⟨t, 0, 0⟩
def intV (n : Int) : Val := ⟨1, n, 0⟩
def b2i (b : Bool) : Int := if b then 1 else 0
def boolV (b : Bool) : Val := ⟨3, b2i b, 0⟩

/-- A block of three cells (a value) just laid, seen later on. -/
theorem res3 {w w1 : World} {a b c : Value} {T : TypeId} (h : Below (w.alloc (.cells #[a, b, c] T)).heap.size (w.alloc (.cells #[a, b, c] T)) w1) :
    w1.cell? ⟨w.heap.size, 0, none⟩ = some a ∧ w1.cell? ⟨w.heap.size, 1, none⟩ = some b ∧ w1.cell? ⟨w.heap.size, 2, none⟩ = some c ∧
    w1.frozen? ⟨w.heap.size, 0, none⟩ = false ∧ w1.frozen? ⟨w.heap.size, 1, none⟩ = false ∧ w1.frozen? ⟨w.heap.size, 2, none⟩ = false ∧ w.heap.size < w1.heap.size := by
  have hs := h.size
  simp at hs
  refine ⟨(h.cell (p := ⟨w.heap.size, 0, none⟩) (by simp)).trans ?_, (h.cell (p := ⟨w.heap.size, 1, none⟩) (by simp)).trans ?_, (h.cell (p := ⟨w.heap.size, 2, none⟩) (by simp)).trans ?_,
    (h.frozen (p := ⟨w.heap.size, 0, none⟩) (by simp)).trans ?_, (h.frozen (p := ⟨w.heap.size, 1, none⟩) (by simp)).trans ?_, (h.frozen (p := ⟨w.heap.size, 2, none⟩) (by simp)).trans ?_, by omega⟩
  all_goals first | exact World.frozen?_alloc_new w _ _ _ | (rw [World.cell?_alloc_new]; rfl)
/-- A draw ahead of it turns no memory. -/
theorem _root_.Go.RowKit.Below.dropDraw {w w1 : World} (h : Below w.drew.heap.size w.drew w1) : w1.heap.size ≥ w.heap.size ∧ ∀ k, k < w.heap.size → w1.heap[k]? = w.heap[k]? := ⟨h.size, h.block⟩
/-- .. of a world's memory alone. -/
theorem res3d {w w1 : World} {a b c : Value} {T : TypeId} (h : w1.heap.size ≥ (w.alloc (.cells #[a, b, c] T)).heap.size ∧ ∀ k, k < (w.alloc (.cells #[a, b, c] T)).heap.size → w1.heap[k]? = (w.alloc (.cells #[a, b, c] T)).heap[k]?) :
    w1.cell? ⟨w.heap.size, 0, none⟩ = some a ∧ w1.cell? ⟨w.heap.size, 1, none⟩ = some b ∧ w1.cell? ⟨w.heap.size, 2, none⟩ = some c ∧
    w1.frozen? ⟨w.heap.size, 0, none⟩ = false ∧ w1.frozen? ⟨w.heap.size, 1, none⟩ = false ∧ w1.frozen? ⟨w.heap.size, 2, none⟩ = false ∧ w.heap.size < w1.heap.size := by
  have hs := h.1
  simp at hs
  have hb : w1.heap[w.heap.size]? = some (.cells #[a, b, c] T) := (h.2 _ (by simp)).trans (heap_alloc_new w _)
  refine ⟨?_, ?_, ?_, ?_, ?_, ?_, by omega⟩
  all_goals simp [World.cell?, World.frozen?, hb]
end Go.Stk
