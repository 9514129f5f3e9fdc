/-
  ClockOf: a clock is at most another one just if its epochs are: the law's walk.
-/
import Derived.Test.YtcipikacgkkapaaDoorWd
import Derived.Test.YtcipikacgkkapaaDoorPlain
namespace Go.Proofs.YtcipikacgkkapaaDoor
open Go.RowKit Go.Stk
attribute [local go_sem] max2_int max_two

theorem lens_join {a b : List Int} (ha : a.length ≤ 1000000000) (hb : b.length ≤ 1000000000) : (joinL a b).length ≤ 1000000000 :=
  Nat.le_trans (joinL_len a b) (by omega)
theorem atMost_yes {a b : List Int} (h : ∀ g : Int, getL a g ≤ getL b g) : atMost a b = true := (atMost_iff a b).2 h
theorem same_yes {a b : List Int} (h : ∀ g : Int, getL a g = getL b g) : (atMost a b && atMost b a) = true := (same_iff a b).2 h
theorem apart_no {a b : List Int} (h : atMost a b = true ∨ atMost b a = true) : (!atMost a b && !atMost b a) = false := by
  rcases h with h | h <;> simp [h]
/-- The first k counts of a are at most b's. -/
def upTo (a b : List Int) (k : Nat) : Bool := (List.range k).all fun g => decide (getL a g ≤ getL b g)
theorem upTo_succ (a b : List Int) (k : Nat) : upTo a b (k + 1) = (upTo a b k && decide (getL a k ≤ getL b k)) := by simp [upTo, List.range_succ]
theorem upTo_all (a b : List Int) : upTo a b a.length = atMost a b := by
  refine Bool.eq_iff_iff.2 ?_
  rw [atMost_iff]
  simp only [upTo, List.all_eq_true, List.mem_range, decide_eq_true_eq]
  constructor
  · intro h g
    rcases intSplit g 0 with hg | hg
    · rw [getL_neg _ _ hg, getL_neg _ _ hg]; omega
    · obtain ⟨k, rfl⟩ := Int.eq_ofNat_of_zero_le hg
      by_cases hk : k < a.length
      · exact h k hk
      · have : getL a k = 0 := by rw [getL_nat]; simp [List.getElem?_eq_none (show a.length ≤ k by omega)]
        rw [this]; exact getL_nonneg _ _
  · intro h k _; exact h k
theorem of_long (a : List Int) (b : List Int) (A_a : Option Addr) (A_b : Option Addr) (c_a : Nat) (c_b : Nat) (w : World) (hl : 500 < a.length ∨ 500 < b.length) (h_a : a.length ≤ 9223372036854775807) (h_b : b.length ≤ 9223372036854775807) :
    Calls Tryd.prog 8 #[.slice A_a a.length c_a, .slice A_b b.length c_b] w (Ret w (.bool true)) := by
  by_cases h0 : 500 < a.length
  · go_enter Tryd.func8, Tryd.ntmps8
    go_wp2_with fail
    refine (alive_any w).mono ?_
    rintro e w1 ⟨rfl, hb1⟩
    go_wp2_with fail
    go_ret
    exact ⟨rfl, hb1⟩
  · skip
    have h1 : 500 < b.length := by omega
    clear hl
    go_enter Tryd.func8, Tryd.ntmps8
    go_wp2_with fail
    refine (alive_any w).mono ?_
    rintro e w1 ⟨rfl, hb1⟩
    go_wp2_with fail
    go_ret
    exact ⟨rfl, hb1⟩
theorem of_law (a : List Int) (b : List Int) (A_a : Option Addr) (A_b : Option Addr) (c_a : Nat) (c_b : Nat) (w : World) (r_a : RI w A_a a) (r_b : RI w A_b b) (l_a : a.length ≤ 500) (l_b : b.length ≤ 500) :
    Calls Tryd.prog 8 #[.slice A_a a.length c_a, .slice A_b b.length c_b] w (Ret w (.bool true)) := by
  have hd0 : decide (500 < (a.length : Int)) = false := decide_eq_false (by omega)
  have hd1 : decide (500 < (b.length : Int)) = false := decide_eq_false (by omega)
  have hb : Below w.heap.size w w := Below.refl _ _
  go_enter Tryd.func8, Tryd.ntmps8
  go_wp2_with fail
  refine (alive_any w).mono ?_
  rintro e w1 ⟨rfl, hbx⟩
  replace r_a := r_a.later hbx
  replace r_b := r_b.later hbx
  replace hb := below_next hb hbx
  clear hbx
  go_wp2_with fail
  go_loopw [5, 19] (fun v i wr => ∃ k : Nat, k ≤ a.length ∧ i = .int .i64 k ∧ v = .bool (upTo a b k) ∧ RI wr A_a a ∧ RI wr A_b b ∧ Below w.heap.size w wr) (fun _ i _ => a.length - (intOf i).toNat)
  case atStart => exact ⟨0, Nat.zero_le _, rfl, rfl, r_a, r_b, hb⟩
  case round =>
    clear hb r_a r_b
    obtain ⟨k, hk, rfl, rfl, r_a, r_b, hb⟩ := hrel
    by_cases hlt : k < a.length
    · cases hu : upTo a b k
      · have H1 := Lib.hid ((upTo_succ a b k).trans (by rw [hu]; rfl) : upTo a b (k + 1) = false)
        clear hu
        go_wp2_with fail
        go_roundw
        case rel => exact ⟨k+1, by omega, by go_num, by rw [H1.out], r_a, r_b, hb⟩
        case measure => simp [intOf]; omega
      · have H1 := Lib.hid ((upTo_succ a b k).trans (by rw [hu]; rfl) : upTo a b (k + 1) = decide (getL a k ≤ getL b k))
        clear hu
        go_wp2_with fail
        refine (of_any a A_a c_a k wr r_a).mono ?_
        rintro e w2 ⟨rfl, hbx⟩
        replace hb := below_next hb hbx
        replace r_a := r_a.later hbx
        replace r_b := r_b.later hbx
        clear hbx
        go_wp2_with fail
        refine (eAtMost_any b A_b c_b k (getL a k) w2 r_b).mono ?_
        rintro e w3 ⟨rfl, hbx⟩
        replace hb := below_next hb hbx
        replace r_a := r_a.later hbx
        replace r_b := r_b.later hbx
        clear hbx
        rw [← H1.out]
        go_wp2_with fail
        go_roundw
        case rel => exact ⟨k+1, by omega, by go_num, rfl, r_a, r_b, hb⟩
        case measure => simp [intOf]; omega
    · obtain rfl : k = a.length := by omega
      rw [upTo_all]
      go_wp2_with fail
      refine (atMost_any a b A_a A_b c_a c_b wr r_a r_b (by omega) (by omega)).mono ?_
      rintro e w2 ⟨rfl, hbx⟩
      replace hb := below_next hb hbx
      go_wp2_with fail
      go_ret
      exact ⟨by simp, hb⟩
end Go.Proofs.YtcipikacgkkapaaDoor
