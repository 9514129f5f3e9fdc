/-
  The document's answer on an instruction, by its number.
-/
import Derived.Test.YtbpbimkadiobfaaDoorCode10
import Derived.Test.YtbpbimkadiobfaaDoorParse4
import Derived.Deep.RegionLaw
import Derived.ChangeAlike
namespace Go.Proofs.YtbpbimkadiobfaaDoor
open Go.RowKit Go.Stk

theorem in_any (n k : Int) (w : World) : Calls Tryd.prog 40 #[.int .i64 n, .int .i64 k] w (fun e w' => e = .returned (.bool (wB n 0 (k - 1))) ∧ w = w') := by
  by_cases h1 : 0 ≤ n
  · have d1 : decide (0 ≤ n) = true := decide_eq_true h1
    by_cases h2 : n < k
    · have E := Lib.hid (wB_t (n := n) (a := 0) (b := k - 1) h1 (by omega))
      have d2 : decide (n < k) = true := decide_eq_true h2
      go_enter Tryd.func40, Tryd.ntmps40
      go_wp2_with fail
      go_ret
      exact ⟨by rw [E.out]; rfl, rfl⟩
    · have E := Lib.hid (wB_f (n := n) (a := 0) (b := k - 1) (by omega))
      have d2 : decide (n < k) = false := decide_eq_false h2
      go_enter Tryd.func40, Tryd.ntmps40
      go_wp2_with fail
      go_ret
      exact ⟨by rw [E.out]; rfl, rfl⟩
  · have E := Lib.hid (wB_f (n := n) (a := 0) (b := k - 1) (by omega))
    have d1 : decide (0 ≤ n) = false := decide_eq_false h1
    go_enter Tryd.func40, Tryd.ntmps40
    go_wp2_with fail
    go_ret
    exact ⟨by rw [E.out]; rfl, rfl⟩
theorem rtyp_any (n : Int) (w : World) : Calls Tryd.prog 41 #[.int .i64 n] w (fun e w' => e = .returned (.bool (tyB n)) ∧ w = w') := by
  unfold tyB
  by_cases h1 : 1 ≤ n
  · have d1 : decide (1 ≤ n) = true := decide_eq_true h1
    by_cases h2 : n ≤ 3
    · have E := Lib.hid (wB_t h1 h2)
      have d2 : decide (n ≤ 3) = true := decide_eq_true h2
      go_enter Tryd.func41, Tryd.ntmps41
      go_wp2_with fail
      go_ret
      exact ⟨by rw [E.out]; rfl, rfl⟩
    · have E := Lib.hid (wB_f (n := n) (a := 1) (b := 3) (by omega))
      have d2 : decide (n ≤ 3) = false := decide_eq_false h2
      go_enter Tryd.func41, Tryd.ntmps41
      go_wp2_with fail
      go_ret
      exact ⟨by rw [E.out]; rfl, rfl⟩
  · have E := Lib.hid (wB_f (n := n) (a := 1) (b := 3) (by omega))
    have d1 : decide (1 ≤ n) = false := decide_eq_false h1
    go_enter Tryd.func41, Tryd.ntmps41
    go_wp2_with fail
    go_ret
    exact ⟨by rw [E.out]; rfl, rfl⟩
end Go.Proofs.YtbpbimkadiobfaaDoor
