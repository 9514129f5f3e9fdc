/-
  A pool's arena: how many pages are in runs; all runs freed.
-/
import Derived.Test.YtpjphmpebegidaaDoorPool6
namespace Go.Proofs.YtpjphmpebegidaaDoor
open Go.RowKit Go.Stk
attribute [local go_sem ↓] Go.wp_at_zero Go.wp_at_succ

theorem clear_zero {P : Program} (w : World) (t ty e : TypeId) {A : Option Addr} (ht : P.underlying t = some (.slice e)) (c : Nat) : (Builtin.clear_ #[t] ty #[.slice A 0 c]).run P w = .ok (.tuple #[]) w := by
  cases A <;> simp [Builtin.clear_, run_underlying ht]
theorem rng_all {α : Type _} (l : List α) (n : Nat) (z : α) (h : l.length = n) : rng l 0 n z = List.replicate n z := by subst h; simp [rng]
/-- How many are true. -/
def trues (l : List Bool) : Nat := l.countP (fun b => b)
theorem trues_take (l : List Bool) (k : Nat) (x : Bool) (h : l[k]? = some x) : trues (l.take (k + 1)) = trues (l.take k) + (if x then 1 else 0) := by
  have hk := (List.getElem?_eq_some_iff.1 h).1
  rw [List.take_add_one, h]
  simp [trues, List.countP_append, List.countP_cons]
theorem trues_le (l : List Bool) : trues l ≤ l.length := List.countP_le_length
section
variable {w : World} {L : PLay} {S : PS} (h : PRep w L S)
variable {i : Nat} {a : Ar} {l : AL} (ha : S.ars[i]? = some a) (hl : L.als[i]? = some l)
include h ha hl
theorem used_any : Calls Tryd.prog 13 #[.pointer (some ⟨l.ab, 0, none⟩)] w (Ret w (.int .i64 (trues a.taken : Nat))) := by
  obtain ⟨hr, ho⟩ := h.ar i a l ha hl
  have f2 : w.cell? ⟨l.ab, 2, none⟩ = some (.slice (some ⟨l.tb, 0, none⟩) a.n a.n) := by rw [blk_cell hr.blk]; rfl
  have hcell : ∀ j x, a.taken[j]? = some x → w.cell? ⟨l.tb, j, none⟩ = some (.bool x) := fun j x hx => by rw [blk_cell hr.taken]; exact bcells_at hx
  have HC := Lib.hid hcell
  have HT := Lib.hid hr.lt
  have hn256 : (a.n : Int) ≤ 256 := by have := h.hnp; omega
  clear hr ho hcell ha hl h
  go_enter Tryd.func13, Tryd.ntmps13
  go_wp2_with fail
  go_loop [3, 11] (fun nv jv => ∃ j t : Nat, j ≤ a.n ∧ t ≤ j ∧ jv = .int .i64 j ∧ nv = .int .i64 t ∧ Hid (t = trues (a.taken.take j))) (fun _ jv => a.n - (intOf jv).toNat)
  case atStart => exact ⟨0, 0, Nat.zero_le _, Nat.le_refl _, rfl, rfl, Lib.hid (by simp [trues])⟩
  case round =>
    obtain ⟨j, t, hj, htj, rfl, rfl, hP⟩ := hrel
    by_cases hlt : j < a.n
    · obtain ⟨x, hx⟩ : ∃ x, a.taken[j]? = some x := ⟨_, List.getElem?_eq_getElem (by rw [HT.out]; exact hlt)⟩
      have c0 := HC.out j x hx
      have j0 : (0 : Int) ≤ (j : Int) := by omega
      have j1 : (j : Int) < (a.n : Int) := by omega
      have HN := Lib.hid (trues_take a.taken j x hx)
      clear hx
      cases x
      · have HM : Hid (t = trues (a.taken.take (j + 1))) := by have h1 := HN.out; have h2 := hP.out; simp at h1; show _ = _; omega
        clear HN hP
        go_wp2_with fail
        refine ⟨⟨j + 1, t, by omega, by omega, by go_num, by go_num, HM⟩, ?_⟩
        simp [intOf]
        omega
      · have HM : Hid (t + 1 = trues (a.taken.take (j + 1))) := by have h1 := HN.out; have h2 := hP.out; simp at h1; show _ = _; omega
        clear HN hP
        go_wp2_with fail
        refine ⟨⟨j + 1, t + 1, by omega, by omega, by go_num, by go_num, HM⟩, ?_⟩
        simp [intOf]
        omega
    · have HJ : Hid (t = trues a.taken) := by
        have h1 := hP.out
        rw [show j = a.taken.length by have := HT.out; omega, List.take_length] at h1
        exact h1
      clear hP
      go_wp2_with fail
      go_ret
      rw [HJ.out]
      exact ⟨rfl, Below.refl _ _⟩
/-- All of an arena as at the start. -/
def cleared (a : Ar) : Ar := { a with runs := List.replicate a.n 0, taken := List.replicate a.n false }
set_option maxHeartbeats 1000000 in
theorem clear_any : Calls Tryd.prog 20 #[.pointer (some ⟨l.ab, 0, none⟩)] w
    (RetP w L { S with words := rng S.words (a.off * 16) (a.off * 16 + a.n * 16) 0, ars := S.ars.set i (cleared a) } (.tuple #[])) := by
  obtain ⟨hr, ho⟩ := h.ar i a l ha hl
  have hlw := h.lw
  have hmem := List.mem_of_getElem? hl
  have hi := (List.getElem?_eq_some_iff.1 ha).1
  have f0 : w.cell? ⟨l.ab, 0, none⟩ = some (.slice (some l.pa) a.n a.n) := by rw [blk_cell hr.blk]; rfl
  obtain ⟨W1, E1, h1, k1⟩ : ∃ W1, (∀ (ty : TypeId) (c : Nat), (Builtin.clear_ #[62] ty #[.slice (some l.pa) a.n c]).run Tryd.prog w = .ok (.tuple #[]) W1) ∧ PRep W1 L { S with words := rng S.words (a.off * 16) (a.off * 16 + a.n * 16) 0 } ∧ Kept [L.gb] w W1 := by
    by_cases hn : 0 < a.n
    · obtain ⟨W1, E1, g1, k1⟩ := clear_ints (P := Tryd.prog) Tryd.underlying62 infoPage zeroPage h.pages (a.off * 16) a.n hn (by omega)
      refine ⟨W1, fun ty c => by rw [hr.pa hn]; exact E1 ty c, h.setWords _ k1 g1 (by rw [rng_len _ _ _ _ (by omega) (by omega)]; exact hlw), k1⟩
    · have hn0 : a.n = 0 := by omega
      refine ⟨w, fun ty c => by rw [hn0]; exact clear_zero w _ ty _ Tryd.underlying62 c, ?_, Kept.refl _ _⟩
      rw [hn0, Nat.zero_mul, Nat.add_zero, rng_none _ _ _ (by omega)]
      exact h
  obtain ⟨hr1, _⟩ := h1.ar i a l ha hl
  have f2 : W1.cell? ⟨l.ab, 2, none⟩ = some (.slice (some ⟨l.tb, 0, none⟩) a.n a.n) := by rw [blk_cell hr1.blk]; rfl
  obtain ⟨W2, E2, h2, k2⟩ : ∃ W2, (∀ (ty : TypeId) (c : Nat), (Builtin.clear_ #[63] ty #[.slice (some ⟨l.tb, 0, none⟩) a.n c]).run Tryd.prog W1 = .ok (.tuple #[]) W2) ∧ PRep W2 L { S with words := rng S.words (a.off * 16) (a.off * 16 + a.n * 16) 0, ars := S.ars.set i { a with taken := List.replicate a.n false } } ∧ Kept [l.tb] W1 W2 := by
    by_cases hn : 0 < a.n
    · obtain ⟨W2, E2, g2, k2⟩ := clear_bools (P := Tryd.prog) Tryd.underlying63 infoBool (zeroOne _ rfl) hr1.taken 0 a.n hn (by rw [hr1.lt]; omega)
      rw [Nat.zero_add, rng_all _ _ _ hr1.lt] at g2
      exact ⟨W2, E2, h1.setTaken ha hl _ k2 g2 (by simp), k2⟩
    · have hn0 : a.n = 0 := by omega
      refine ⟨W1, fun ty c => by rw [hn0]; exact clear_zero W1 _ ty _ Tryd.underlying63 c, ?_, Kept.refl _ _⟩
      have : List.replicate a.n false = a.taken := by
        have := hr1.lt
        rw [hn0] at this ⊢
        simp at this
        simp [this]
      rw [this]
      refine h1.setTaken ha hl _ (Kept.refl _ _) hr1.taken hr1.lt
  have ha2 : (S.ars.set i { a with taken := List.replicate a.n false })[i]? = some { a with taken := List.replicate a.n false } := by simp [hi]
  obtain ⟨hr2, _⟩ := h2.ar i _ l ha2 hl
  have f1 : W2.cell? ⟨l.ab, 1, none⟩ = some (.slice (some ⟨l.rb, 0, none⟩) a.n a.n) := by rw [blk_cell hr2.blk]; rfl
  obtain ⟨W3, E3, h3, k3⟩ : ∃ W3, (∀ (ty : TypeId) (c : Nat), (Builtin.clear_ #[37] ty #[.slice (some ⟨l.rb, 0, none⟩) a.n c]).run Tryd.prog W2 = .ok (.tuple #[]) W3) ∧ PRep W3 L { S with words := rng S.words (a.off * 16) (a.off * 16 + a.n * 16) 0, ars := S.ars.set i (cleared a) } ∧ Kept [l.rb] W2 W3 := by
    by_cases hn : 0 < a.n
    · obtain ⟨W3, E3, g3, k3⟩ := clear_ints (P := Tryd.prog) Tryd.underlying37 infoInt (zeroOne _ rfl) hr2.runs 0 a.n hn (by have : a.runs.length = a.n := hr.lr; show 0 + a.n * 1 ≤ a.runs.length; omega)
      rw [Nat.zero_add, Nat.mul_one, rng_all _ _ _ hr2.lr] at g3
      refine ⟨W3, E3, ?_, k3⟩
      have := h2.setRuns ha2 hl _ k3 g3 (by simp)
      simpa [cleared] using this
    · have hn0 : a.n = 0 := by omega
      refine ⟨W2, fun ty c => by rw [hn0]; exact clear_zero W2 _ ty _ Tryd.underlying37 c, ?_, Kept.refl _ _⟩
      have e : List.replicate a.n 0 = a.runs := by
        have := hr2.lr
        simp only [] at this
        rw [hn0] at this ⊢
        simp at this
        simp [this]
      have := h2.setRuns ha2 hl _ (Kept.refl _ _) hr2.runs hr2.lr
      simpa [cleared, e] using this
  have FIN : Hid (RetP w L { S with words := rng S.words (a.off * 16) (a.off * 16 + a.n * 16) 0, ars := S.ars.set i (cleared a) } (.tuple #[]) (.returned (.tuple #[])) W3) := by
    refine ⟨rfl, h3, ?_⟩
    have o1 : L.gb ∈ L.fp := PLay.mem.2 (.inr (.inl rfl))
    have o2 : l.tb ∈ L.fp := PLay.mem.2 (.inr (.inr (.inr ⟨l, hmem, by simp [AL.bl]⟩)))
    have o3 : l.rb ∈ L.fp := PLay.mem.2 (.inr (.inr (.inr ⟨l, hmem, by simp [AL.bl]⟩)))
    refine ((k1.mono (by simpa using o1)).trans k2 ?_).trans k3 ?_
    · simp; exact .inl o2
    · simp; exact .inl o3
  clear h1 h2 h3 k1 k2 k3 hr hr1 hr2 ha2 hi hmem hlw ho ha hl h
  go_enter Tryd.func20, Tryd.ntmps20
  go_wp2_with fail
  refine ⟨rfl, .tuple #[], results_none rfl _ _ _, ?_⟩
  exact FIN.out
end
end Go.Proofs.YtpjphmpebegidaaDoor
