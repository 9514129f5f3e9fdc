/-
  The walks of the document's own functions: At, longer, Leq.
-/
import Derived.Test.YtcipikacgkkapaaDoorWd
import Derived.Test.YtcipikacgkkapaaDoorPlain
namespace Go.Proofs.YtcipikacgkkapaaDoor
open Go.RowKit Go.Stk
attribute [local go_sem] max2_int max_two

theorem at_any (l : List Int) (A : Option Addr) (c : Nat) (g : Int) (w : World) (h : RI w A l) :
    Calls Tryd.prog 20 #[.slice A l.length c, .int .i64 g] w fun e w' => e = .returned (.int .i64 (getL l g)) ∧ w = w' := by
  have hl := h.len
  by_cases h0 : g < 0
  · go_enter Tryd.func20, Tryd.ntmps20
    go_wp2
    go_ret
    exact ⟨by simp [getL, h0], rfl⟩
  · by_cases h1 : (l.length : Int) ≤ g
    · go_enter Tryd.func20, Tryd.ntmps20
      go_wp2
      go_ret
      exact ⟨by simp [getL, h1], rfl⟩
    · obtain ⟨k, rfl⟩ := Int.eq_ofNat_of_zero_le (show 0 ≤ g by omega)
      have hk : k < l.length := by omega
      obtain ⟨b, off, rfl, hcell⟩ := h.at k hk
      obtain ⟨x, hx⟩ : ∃ x, l.getD k 0 = x := ⟨_, rfl⟩
      rw [hx] at hcell
      have HX := Lib.hid (show getL l k = max x 0 by rw [getL_nat, hx])
      clear hx h
      by_cases h2 : 0 < x
      · go_enter Tryd.func20, Tryd.ntmps20
        go_wp2
        go_ret
        exact ⟨by rw [HX.out]; simp; omega, rfl⟩
      · go_enter Tryd.func20, Tryd.ntmps20
        go_wp2
        go_ret
        exact ⟨by rw [HX.out]; simp; omega, rfl⟩
theorem longer_any (a b : List Int) (A B : Option Addr) (ca cb : Nat) (w : World) (_ha : a.length ≤ 9223372036854775807) (_hb : b.length ≤ 9223372036854775807) :
    Calls Tryd.prog 34 #[.slice A a.length ca, .slice B b.length cb] w fun e w' => e = .returned (.int .i64 ((max a.length b.length : Nat) : Int)) ∧ w = w' := by
  by_cases h : b.length < a.length
  · go_enter Tryd.func34, Tryd.ntmps34
    go_wp2
    go_ret
    exact ⟨by simp; omega, rfl⟩
  · go_enter Tryd.func34, Tryd.ntmps34
    go_wp2
    go_ret
    exact ⟨by simp; omega, rfl⟩
end Go.Proofs.YtcipikacgkkapaaDoor
