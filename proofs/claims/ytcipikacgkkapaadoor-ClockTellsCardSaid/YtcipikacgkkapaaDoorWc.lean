/-
  The walk of the clock's Tick.
-/
import Derived.Test.YtcipikacgkkapaaDoorWb
namespace Go.Proofs.YtcipikacgkkapaaDoor
open Go.RowKit Go.Stk
attribute [local go_sem] max2_int max_two

def Ret2 (w : World) (u v : Value) (e : Ending) (w' : World) : Prop := e = .returned (.tuple #[u, v]) ∧ Below w.heap.size w w'
/-- A row of the call's own, and an error. -/
def OwnRet2 (B : Nat) (w : World) (l : List Int) (u : Value) (e : Ending) (w' : World) : Prop := ∃ v, e = .returned (.tuple #[v, u]) ∧ Own w' B v l ∧ Below B w w'

theorem tick_range (xs : List Int) (A : Option Addr) (ca : Nat) (g : Int) (e0 : Value) (w : World) (h0 : w.cell? ⟨0, 0, none⟩ = some e0) (hg : g < 0 ∨ 8 ≤ g) :
    Calls Tryd.prog 14 #[.slice A xs.length ca, .int .i64 g] w (Ret2 w (.slice none 0 0) e0) := by
  by_cases hg0 : g < 0
  · go_enter Tryd.func14, Tryd.ntmps14
    go_wp2_with fail
    go_quiet (fail)
    go_wp2_with fail
    go_ret2
    exact ⟨rfl, below_drewN (Below.refl _ _) _⟩
  · have hg8 : 8 ≤ g := by omega
    go_enter Tryd.func14, Tryd.ntmps14
    go_wp2_with fail
    go_quiet (fail)
    go_wp2_with fail
    go_ret2
    exact ⟨rfl, below_drewN (Below.refl _ _) _⟩

theorem tick_full (xs : List Int) (A : Option Addr) (ca : Nat) (g : Int) (e1 : Value) (w : World) (h1 : w.cell? ⟨1, 0, none⟩ = some e1) (hx : RI w A xs) (hg : 0 ≤ g) (hg8 : g < 8) (hn : 65536 ≤ getL xs g) :
    Calls Tryd.prog 14 #[.slice A xs.length ca, .int .i64 g] w (Ret2 w (.slice none 0 0) e1) := by
  go_enter Tryd.func14, Tryd.ntmps14
  go_wp2_with fail
  refine (get_any xs A ca g w hx).mono ?_
  rintro e w1 ⟨rfl, rfl⟩
  go_wp2_with fail
  go_quiet (fail)
  go_wp2_with fail
  go_ret2
  exact ⟨rfl, below_drewN (Below.refl _ _) _⟩

/-- The list of one tick: g zeros, and n. -/
def oneL (g : Nat) (n : Int) : List Int := List.replicate g 0 ++ [n]

theorem oneL_len (g : Nat) (n : Int) : (oneL g n).length = g + 1 := by simp [oneL]
theorem one_list (g : Nat) (n : Int) : ((madeCells #[Value.int .i64 0] (g + 1)).setIfInBounds g (.int .i64 n)).toList = ints (oneL g n) := by
  rw [madeCells_rep]
  simp [ints, oneL, List.replicate_succ']
theorem own_base {w : World} {B B' : Nat} {v : Value} {xs : List Int} (h : Own w B' v xs) (hB : B ≤ B') : Own w B v xs := by
  obtain ⟨h1, h2⟩ := h
  refine ⟨h1, ?_⟩
  rcases h2 with h2 | ⟨g, cap, cur, a, b, c⟩
  · exact .inl h2
  · exact .inr ⟨g, cap, cur, a, Nat.le_trans hB b, c⟩
theorem tick_ok (xs : List Int) (A : Option Addr) (ca : Nat) (g : Nat) (w : World) (hx : RI w A xs) (hxs : xs.length ≤ 1000000000) (hg8 : g < 8) (hn : getL xs g < 65536) (hn0 : 0 ≤ getL xs g) :
    Calls Tryd.prog 14 #[.slice A xs.length ca, .int .i64 g] w (OwnRet2 w.heap.size w (joinL xs (oneL g (getL xs g + 1))) .nilIface) := by
  have hmk := make_one (P := Tryd.prog) 22 3 (.int .i64 0) 8 Tryd.underlying22 info3 rfl (by decide) (g + 1) (by omega)
  rw [show ((g + 1 : Nat) : Int) = (g : Int) + 1 by omega] at hmk
  have hcell : (w.alloc (.cells (madeCells #[.int .i64 0] (g + 1)) 3)).cell? ⟨w.heap.size, g, none⟩ = some (.int .i64 0) := by
    simp [World.cell?_alloc_new, madeCells_rep]
  go_enter Tryd.func14, Tryd.ntmps14
  go_wp2_with fail
  refine (get_any xs A ca g w hx).mono ?_
  rintro e w1 ⟨rfl, rfl⟩
  go_wp2_with fail
  obtain ⟨W, hW⟩ : ∃ W, W = w.alloc (.cells ((madeCells #[.int .i64 0] (g + 1)).setIfInBounds g (.int .i64 (getL xs g + 1))) 3) := ⟨_, rfl⟩
  have hbW : Below w.heap.size w W := by rw [hW]; exact (Below.refl _ _).alloc (Nat.le_refl _) _
  have ho : Own W w.heap.size (.slice (some ⟨w.heap.size, 0, none⟩) (g + 1) (g + 1)) (oneL g (getL xs g + 1)) := by
    have := own_new w w.heap.size 3 ((madeCells #[.int .i64 0] (g + 1)).setIfInBounds g (.int .i64 (getL xs g + 1))) (Nat.le_refl _) (by simp [size_madeCells, maxLen]; omega)
    rw [← hW, one_list] at this
    simpa [Own, size_madeCells, oneL_len] using this
  rw [← hW]
  clear hW hcell hmk
  obtain ⟨A', c', e', hc', r'⟩ := ho.ri
  have hj := join_any xs (oneL g (getL xs g + 1)) A A' ca c' W (hx.later hbW) r' hxs (by rw [oneL_len]; omega)
  rw [← e'] at hj
  refine hj.mono ?_
  rintro e w2 ⟨v, rfl, ho2, hb2⟩
  go_wp2_with fail
  go_ret2
  exact ⟨_, rfl, own_base ho2 hbW.size, hbW.trans (hb2.mono hbW.size)⟩
end Go.Proofs.YtcipikacgkkapaaDoor
