/-
  A pool's small calls.
-/
import Derived.Test.YtpjphmpebegidaaDoorPool1
import Derived.Deep.QuietTactic
import Derived.Deep.RegionLaw
import Derived.Deep.DrawnRows
namespace Go.Proofs.YtpjphmpebegidaaDoor
open Go.RowKit Go.Stk
attribute [local go_sem ↓] Go.wp_at_zero Go.wp_at_succ

def errV (a : Addr) : Value := .iface 94 (.pointer (some a))
/-- The three errors of a pool's calls. -/
structure Errs (w : World) (er en ea : Addr) : Prop where
  r : w.cell? ⟨0, 0, none⟩ = some (.iface 94 (.pointer (some er)))
  n : w.cell? ⟨2, 0, none⟩ = some (.iface 94 (.pointer (some en)))
  a : w.cell? ⟨1, 0, none⟩ = some (.iface 94 (.pointer (some ea)))
theorem Errs.later {w w' : World} {er en ea : Addr} (h : Errs w er en ea) (hb : Below w.heap.size w w') : Errs w' er en ea := ⟨cell_later hb h.r, cell_later hb h.n, cell_later hb h.a⟩
theorem below_drewN0 (w : World) (n : Nat) : Below w.heap.size w (w.drewN n) := ⟨rfl, rfl, rfl, Nat.le_refl _, fun _ _ => rfl⟩
theorem below_drew0 (w : World) : Below w.heap.size w w.drew := ⟨rfl, rfl, rfl, Nat.le_refl _, fun _ _ => rfl⟩
def Out (i : Int) (n : Nat) : Prop := i < 0 ∨ (n : Int) ≤ i
/-- What a call answers, and what became of the pool. -/
def RetP (w : World) (L : PLay) (S : PS) (v : Value) (e : Ending) (w' : World) : Prop := e = .returned v ∧ PRep w' L S ∧ Kept L.fp w w'
theorem bcells_at {l : List Bool} {i : Nat} {x : Bool} (h : l[i]? = some x) : (bcells l).toArray[i]? = some (.bool x) := by simp [bcells, h]
theorem ints_at {l : List Int} {i : Nat} {x : Int} (h : l[i]? = some x) : (ints l).toArray[i]? = some (.int .i64 x) := by simp [ints, h]

section
variable {w : World} {L : PLay} {S : PS} (h : PRep w L S)
include h
theorem pages_any : Calls Tryd.prog 26 #[.pointer (some ⟨L.pb, 0, none⟩)] w (Ret w (.int .i64 (S.np : Nat))) := by
  have f0 : w.cell? ⟨L.pb, 0, none⟩ = some (.slice (some ⟨L.gb, 0, none⟩) S.np S.np) := by rw [blk_cell h.pool]; rfl
  have hn : (S.np : Int) ≤ 256 := by have := h.hnp; omega
  go_enter Tryd.func26, Tryd.ntmps26
  go_wp2
  go_ret
  exact ⟨rfl, Below.refl _ _⟩
theorem arena_out (i : Int) (er en ea : Addr) (hE : Errs w er en ea) (hi : Out i S.ars.length) : Calls Tryd.prog 19 #[.pointer (some ⟨L.pb, 0, none⟩), .int .i64 i] w (Ret w (.tuple #[.pointer none, errV er])) := by
  have hr := hE.r
  obtain ⟨A, c, ev, hc, hm, _⟩ := h.arow.form
  have f1 : w.cell? ⟨L.pb, 1, none⟩ = some (.slice A L.als.length c) := by rw [blk_cell h.pool, ev]; rfl
  have hl : (L.als.length : Int) ≤ 9223372036854775807 := by simp only [maxLen] at hm; omega
  rw [← h.alen] at hi
  have HI := Lib.hid hi
  clear hE hi ev
  by_cases h0 : i < 0
  · go_enter Tryd.func19, Tryd.ntmps19
    go_wp2_with fail
    go_quiet (fail)
    go_wp2_with fail
    go_ret2
    exact ⟨rfl, below_drewN0 _ _⟩
  · have d1 : decide (i < 0) = false := decide_eq_false h0
    have d2 : decide ((L.als.length : Int) ≤ i) = true := decide_eq_true (by have := HI.out; unfold Out at this; omega)
    go_enter Tryd.func19, Tryd.ntmps19
    go_wp2_with fail
    go_quiet (fail)
    go_wp2_with fail
    go_ret2
    exact ⟨rfl, below_drewN0 _ _⟩
theorem arena_in (i : Nat) (l : AL) (hl : L.als[i]? = some l) : Calls Tryd.prog 19 #[.pointer (some ⟨L.pb, 0, none⟩), .int .i64 i] w (Ret w (.tuple #[.pointer (some ⟨l.ab, 0, none⟩), .nilIface])) := by
  have hi : i < L.als.length := (List.getElem?_eq_some_iff.1 hl).1
  obtain ⟨g, c, ev, eb, hc, hm, hg, hcell, _⟩ := h.arow.mid (by omega)
  have f1 : w.cell? ⟨L.pb, 1, none⟩ = some (.slice (some ⟨g, 0, none⟩) L.als.length c) := by rw [blk_cell h.pool, ev]; rfl
  have k0 := hcell i (.pointer (some ⟨l.ab, 0, none⟩)) (by simp [hl])
  have h64 : (L.als.length : Int) ≤ 9223372036854775807 := by simp only [maxLen] at hm; omega
  clear ev eb hcell hl
  go_enter Tryd.func19, Tryd.ntmps19
  go_wp2
  go_ret2
  exact ⟨rfl, Below.refl _ _⟩
variable {i : Nat} {a : Ar} {l : AL} (ha : S.ars[i]? = some a) (hl : L.als[i]? = some l)
include ha hl
theorem share_any : Calls Tryd.prog 28 #[.pointer (some ⟨l.ab, 0, none⟩)] w (Ret w (.int .i64 (a.n : Nat))) := by
  obtain ⟨hr, ho⟩ := h.ar i a l ha hl
  have f0 : w.cell? ⟨l.ab, 0, none⟩ = some (.slice (some l.pa) a.n a.n) := by rw [blk_cell hr.blk]; rfl
  have hn : (a.n : Int) ≤ 256 := by have := h.hnp; omega
  clear hr ho ha hl
  go_enter Tryd.func28, Tryd.ntmps28
  go_wp2
  go_ret
  exact ⟨rfl, Below.refl _ _⟩
theorem run_same (k : Nat) (r p : Int) (hp : p = 16 * (k : Int)) (hk : a.runs[k]? = some r) : Calls Tryd.prog 33 #[.pointer (some ⟨l.ab, 0, none⟩), .int .i64 p] w (fun e w' => e = .returned (.int .i64 r) ∧ w = w') := by
  obtain ⟨hr, ho⟩ := h.ar i a l ha hl
  have f1 : w.cell? ⟨l.ab, 1, none⟩ = some (.slice (some ⟨l.rb, 0, none⟩) a.n a.n) := by rw [blk_cell hr.blk]; rfl
  have k0 : w.cell? ⟨l.rb, k, none⟩ = some (.int .i64 r) := by rw [blk_cell hr.runs]; exact ints_at hk
  have hn : (a.n : Int) ≤ 256 := by have := h.hnp; omega
  have hkn : k < a.n := by rw [← hr.lr]; exact (List.getElem?_eq_some_iff.1 hk).1
  have d1 : decide (p < 0) = false := decide_eq_false (by omega)
  have p0 : 0 ≤ p := by omega
  have p1 : p ≤ 4096 := by omega
  have e1 : p % 16 = 0 := by omega
  have e2 : p / 16 = (k : Int) := by omega
  have i1 : (k : Int) < (a.n : Int) := by omega
  clear hr ho ha hl hk hp
  go_enter Tryd.func33, Tryd.ntmps33
  go_wp2
  go_ret
  exact ⟨rfl, rfl⟩
theorem run_in (k : Nat) (r p : Int) (hp : p = 16 * (k : Int)) (hk : a.runs[k]? = some r) : Calls Tryd.prog 33 #[.pointer (some ⟨l.ab, 0, none⟩), .int .i64 p] w (Ret w (.int .i64 r)) := ret_quiet (run_same h ha hl k r p hp hk)
end
end Go.Proofs.YtpjphmpebegidaaDoor
