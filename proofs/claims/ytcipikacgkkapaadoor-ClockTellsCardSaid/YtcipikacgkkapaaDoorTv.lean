/-
  ClockTells: what its walks share.
-/
import Derived.Test.YtcipikacgkkapaaDoorTc
namespace Go.Proofs.YtcipikacgkkapaaDoor
open Go.RowKit Go.Stk
attribute [local go_sem] max2_int max_two

theorem lens_join {a b : List Int} (ha : a.length ≤ 1000000000) (hb : b.length ≤ 1000000000) : (joinL a b).length ≤ 1000000000 :=
  Nat.le_trans (joinL_len a b) (by omega)
theorem tells_long (g : Int) (a : List Int) (b : List Int) (A_a : Option Addr) (A_b : Option Addr) (c_a : Nat) (c_b : Nat) (w : World) (hl : 2000 < a.length ∨ 2000 < b.length) (h_a : a.length ≤ 9223372036854775807) (h_b : b.length ≤ 9223372036854775807) :
    Calls Tryd.prog 10 #[.slice A_a a.length c_a, .slice A_b b.length c_b, .int .i64 g] w (Ret w (.bool true)) := by
  by_cases h0 : 2000 < a.length
  · go_enter Tryd.func10, Tryd.ntmps10
    go_wp2_with fail
    refine (alive_any w).mono ?_
    rintro e w1 ⟨rfl, hb1⟩
    go_wp2_with fail
    go_ret
    exact ⟨rfl, hb1⟩
  · skip
    have h1 : 2000 < b.length := by omega
    clear hl
    go_enter Tryd.func10, Tryd.ntmps10
    go_wp2_with fail
    refine (alive_any w).mono ?_
    rintro e w1 ⟨rfl, hb1⟩
    go_wp2_with fail
    go_ret
    exact ⟨rfl, hb1⟩
end Go.Proofs.YtcipikacgkkapaaDoor
