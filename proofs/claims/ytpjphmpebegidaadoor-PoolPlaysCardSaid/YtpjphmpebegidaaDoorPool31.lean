/-
  New of what no pool may be.
-/
import Derived.Test.YtpjphmpebegidaaDoorPool9
namespace Go.Proofs.YtpjphmpebegidaaDoor
open Go.RowKit Go.Stk
attribute [local go_sem ↓] Go.wp_at_zero Go.wp_at_succ

set_option maxRecDepth 100000 in
theorem new_bad (np : Int) (xs : List Int) (A : Option Addr) (c : Nat) (w : World) (er en ea : Addr) (hE : Errs w er en ea) (hx : RI w A xs) (hbad : np < 1 ∨ 256 < np ∨ 8 < xs.length) : Calls Tryd.prog 18 #[.int .i64 np, .slice A xs.length c] w (Ret w (.tuple #[.pointer none, errV er])) := by
  have hr := hE.r
  have hxl := hx.len
  clear hE hx
  by_cases h1 : np < 1
  · have d1 : decide (np < 1) = true := decide_eq_true h1
    go_enter Tryd.func18, Tryd.ntmps18
    go_wp2_with fail
    go_quiet (fail)
    go_wp2_with fail
    go_ret2
    exact ⟨rfl, by first | exact below_drewN0 _ _ | exact below_drew0 _ | exact Below.refl _ _⟩
  · have d1 : decide (np < 1) = false := decide_eq_false h1
    by_cases h2 : 256 < np
    · have d2 : decide (256 < np) = true := decide_eq_true h2
      go_enter Tryd.func18, Tryd.ntmps18
      go_wp2_with fail
      go_quiet (fail)
      go_wp2_with fail
      go_ret2
      exact ⟨rfl, by first | exact below_drewN0 _ _ | exact below_drew0 _ | exact Below.refl _ _⟩
    · have d2 : decide (256 < np) = false := decide_eq_false h2
      have d3 : decide (8 < (xs.length : Int)) = true := decide_eq_true (by omega)
      go_enter Tryd.func18, Tryd.ntmps18
      go_wp2_with fail
      go_quiet (fail)
      go_wp2_with fail
      go_ret2
      exact ⟨rfl, by first | exact below_drewN0 _ _ | exact below_drew0 _ | exact Below.refl _ _⟩
/-- New, of whatever. -/
theorem new_all (np : Int) (xs : List Int) (A : Option Addr) (c : Nat) (w : World) (er en ea : Addr) (hE : Errs w er en ea) (hx : RI w A xs) : Calls Tryd.prog 18 #[.int .i64 np, .slice A xs.length c] w (fun e w' => (newOk np xs = true ∧ Made w np.toNat xs e w') ∨ (newOk np xs = false ∧ Ret w (.tuple #[.pointer none, errV er]) e w')) := by
  by_cases hbad : np < 1 ∨ 256 < np ∨ 8 < xs.length
  · refine (new_bad np xs A c w er en ea hE hx hbad).mono fun _ _ h => .inr ⟨?_, h⟩
    have : newOk np xs ≠ true := by
      unfold newOk
      simp only [ne_eq, Bool.and_eq_true, decide_eq_true_eq]
      omega
    simpa using this
  · obtain ⟨n, rfl⟩ : ∃ n : Nat, np = (n : Int) := ⟨np.toNat, by omega⟩
    exact new_ok n xs A c w er en ea hE hx (by omega) (by omega) (by omega)
end Go.Proofs.YtpjphmpebegidaaDoor
