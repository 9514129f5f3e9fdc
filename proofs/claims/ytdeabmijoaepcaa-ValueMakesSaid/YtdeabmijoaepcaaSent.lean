/-
  Listed sentinels: each variable holds a pointer of its own.
-/
import Derived.WalkKit
import Derived.Below
namespace Go.Stk
open Go.RowKit
/-! ### Listed sentinels -/

/-- The sentinels' variables: each holds a pointer of its own to a text of its own. -/
structure Sent (w : World) (tp : TypeId) (gs : List Nat) (as : List Addr) : Prop where
  len : as.length = gs.length
  nodup : as.Nodup
  var : ∀ (i : Nat) (g : Nat) (a : Addr), gs[i]? = some g → as[i]? = some a → w.cell? ⟨g, 0, none⟩ = some (.iface tp (.pointer (some a)))
  text : ∀ (i : Nat) (a : Addr), as[i]? = some a → ∃ s, w.cell? a = some (.string s)
  row : ∀ (i : Nat) (a : Addr), as[i]? = some a → ∃ c t, w.heap[a.block]? = some (.cells c t (0, 0))

theorem Sent.later {w w1 : World} {tp : TypeId} {gs : List Nat} {as : List Addr} (h : Sent w tp gs as) (hb : Below w.heap.size w w1) : Sent w1 tp gs as where
  len := h.len
  nodup := h.nodup
  var i g a hg ha := by
    have h1 := h.var i g a hg ha
    exact (hb.cell (World.block_lt_of_cell? w _ h1)).trans h1
  text i a ha := by
    obtain ⟨s, hs⟩ := h.text i a ha
    exact ⟨s, (hb.cell (World.block_lt_of_cell? w _ hs)).trans hs⟩
  row i a ha := by
    obtain ⟨c, t, hc⟩ := h.row i a ha
    have hlt : a.block < w.heap.size := (Array.getElem?_eq_some_iff.1 hc).1
    exact ⟨c, t, by rw [hb.block _ hlt]; exact hc⟩

end Go.Stk
