/-
  A pool's words.
-/
import Derived.Test.YtpjphmpebegidaaDoorPool2
namespace Go.Proofs.YtpjphmpebegidaaDoor
open Go.RowKit Go.Stk
attribute [local go_sem ↓] Go.wp_at_zero Go.wp_at_succ

/-- No run begins there. -/
def NoRun (p : Int) (n : Nat) : Prop := p < 0 ∨ p % 16 ≠ 0 ∨ (n : Int) ≤ p / 16
/-- No word of a run is there. -/
def NoWord (p : Int) (a : Ar) : Prop := p < 0 ∨ (a.n : Int) ≤ p / 16 ∨ ∃ k : Nat, p / 16 = (k : Int) ∧ a.taken[k]? = some false
section
variable {w : World} {L : PLay} {S : PS} (h : PRep w L S)
variable {i : Nat} {a : Ar} {l : AL} (ha : S.ars[i]? = some a) (hl : L.als[i]? = some l)
include h ha hl
theorem run_out (p : Int) (hp : NoRun p a.n) (h64 : p ≤ 9223372036854775807) : Calls Tryd.prog 33 #[.pointer (some ⟨l.ab, 0, none⟩), .int .i64 p] w (Ret w (.int .i64 0)) := by
  obtain ⟨hr, ho⟩ := h.ar i a l ha hl
  have f1 : w.cell? ⟨l.ab, 1, none⟩ = some (.slice (some ⟨l.rb, 0, none⟩) a.n a.n) := by rw [blk_cell hr.blk]; rfl
  have hn : (a.n : Int) ≤ 256 := by have := h.hnp; omega
  clear hr ho ha hl
  by_cases c0 : p < 0
  · clear hp
    go_enter Tryd.func33, Tryd.ntmps33
    go_wp2
    go_ret
    exact ⟨rfl, Below.refl _ _⟩
  have d0 : decide (p < 0) = false := decide_eq_false c0
  have p0 : 0 ≤ p := by omega
  by_cases c1 : p % 16 = 0
  · have d2 : decide ((a.n : Int) ≤ p / 16) = true := decide_eq_true (by rcases hp with h1 | h1 | h1; omega; omega; exact h1)
    clear hp
    go_enter Tryd.func33, Tryd.ntmps33
    go_wp2
    go_ret
    exact ⟨rfl, Below.refl _ _⟩
  · have d1 : (p % 16 != 0) = true := by simpa using c1
    clear hp
    go_enter Tryd.func33, Tryd.ntmps33
    go_wp2
    go_ret
    exact ⟨rfl, Below.refl _ _⟩
theorem word_out (p : Int) (er en ea : Addr) (hE : Errs w er en ea) (hp : NoWord p a) (h64 : p ≤ 9223372036854775807) : Calls Tryd.prog 34 #[.pointer (some ⟨l.ab, 0, none⟩), .int .i64 p] w (Ret w (.tuple #[.pointer none, errV er])) := by
  have hr' := hE.r
  obtain ⟨hr, ho⟩ := h.ar i a l ha hl
  have f0 : w.cell? ⟨l.ab, 0, none⟩ = some (.slice (some l.pa) a.n a.n) := by rw [blk_cell hr.blk]; rfl
  have f2 : w.cell? ⟨l.ab, 2, none⟩ = some (.slice (some ⟨l.tb, 0, none⟩) a.n a.n) := by rw [blk_cell hr.blk]; rfl
  have hn : (a.n : Int) ≤ 256 := by have := h.hnp; omega
  clear hE
  by_cases c0 : p < 0
  · clear hp hr ho ha hl
    go_enter Tryd.func34, Tryd.ntmps34
    go_wp2_with fail
    go_quiet (fail)
    go_wp2_with fail
    go_ret2
    exact ⟨rfl, below_drewN0 _ _⟩
  have d0 : decide (p < 0) = false := decide_eq_false c0
  have p0 : 0 ≤ p := by omega
  by_cases c1 : (a.n : Int) ≤ p / 16
  · have d1 : decide ((a.n : Int) ≤ p / 16) = true := decide_eq_true c1
    clear hp hr ho ha hl
    go_enter Tryd.func34, Tryd.ntmps34
    go_wp2_with fail
    go_quiet (fail)
    go_wp2_with fail
    go_ret2
    exact ⟨rfl, below_drewN0 _ _⟩
  · have d1 : decide ((a.n : Int) ≤ p / 16) = false := decide_eq_false c1
    obtain ⟨k, ek, hk⟩ : ∃ k : Nat, p / 16 = (k : Int) ∧ a.taken[k]? = some false := by rcases hp with h1 | h1 | h1; omega; omega; exact h1
    have k0 : w.cell? ⟨l.tb, k, none⟩ = some (.bool false) := by rw [blk_cell hr.taken]; exact bcells_at hk
    have i1 : (k : Int) < (a.n : Int) := by omega
    have d2 : decide ((a.n : Int) ≤ (k : Int)) = false := decide_eq_false (by omega)
    clear hp hr ho ha hl hk c1 d1
    go_enter Tryd.func34, Tryd.ntmps34
    go_wp2_with fail
    go_quiet (fail)
    go_wp2_with fail
    go_ret2
    exact ⟨rfl, below_drewN0 _ _⟩
theorem word_in (k j : Nat) (hj : j < 16) (p : Int) (hp : p = 16 * (k : Int) + (j : Int)) (hk : a.taken[k]? = some true) : Calls Tryd.prog 34 #[.pointer (some ⟨l.ab, 0, none⟩), .int .i64 p] w (fun e w' => e = .returned (.tuple #[.pointer (some ⟨L.gb, a.off * 16 + k * 16 + j, none⟩), .nilIface]) ∧ w = w') := by
  obtain ⟨hr, ho⟩ := h.ar i a l ha hl
  have hkn : k < a.n := by rw [← hr.lt]; exact (List.getElem?_eq_some_iff.1 hk).1
  have f0 : w.cell? ⟨l.ab, 0, none⟩ = some (.slice (some ⟨L.gb, a.off * 16, none⟩) a.n a.n) := by rw [blk_cell hr.blk, ← hr.pa (by omega)]; rfl
  have f2 : w.cell? ⟨l.ab, 2, none⟩ = some (.slice (some ⟨l.tb, 0, none⟩) a.n a.n) := by rw [blk_cell hr.blk]; rfl
  have k0 : w.cell? ⟨l.tb, k, none⟩ = some (.bool true) := by rw [blk_cell hr.taken]; exact bcells_at hk
  have hn : (a.n : Int) ≤ 256 := by have := h.hnp; omega
  have d0 : decide (p < 0) = false := decide_eq_false (by omega)
  have p0 : 0 ≤ p := by omega
  have p1 : p ≤ 4096 := by omega
  have e1 : p % 16 = (j : Int) := by omega
  have e2 : p / 16 = (k : Int) := by omega
  have i1 : (k : Int) < (a.n : Int) := by omega
  have i2 : (j : Int) < 16 := by omega
  have d2 : decide ((a.n : Int) ≤ (k : Int)) = false := decide_eq_false (by omega)
  clear hr ho ha hl hk hp
  go_enter Tryd.func34, Tryd.ntmps34
  go_wp2
  go_ret2
  exact ⟨rfl, rfl⟩
end
end Go.Proofs.YtpjphmpebegidaaDoor
