/-
  ClockZero: the empty clock is at most all: the law's walk.
-/
import Derived.Test.YtcipikacgkkapaaDoorWd
import Derived.Test.YtcipikacgkkapaaDoorPlain
namespace Go.Proofs.YtcipikacgkkapaaDoor
open Go.RowKit Go.Stk
attribute [local go_sem] max2_int max_two

theorem lens_join {a b : List Int} (ha : a.length ≤ 1000000000) (hb : b.length ≤ 1000000000) : (joinL a b).length ≤ 1000000000 :=
  Nat.le_trans (joinL_len a b) (by omega)
theorem atMost_yes {a b : List Int} (h : ∀ g : Int, getL a g ≤ getL b g) : atMost a b = true := (atMost_iff a b).2 h
theorem same_yes {a b : List Int} (h : ∀ g : Int, getL a g = getL b g) : (atMost a b && atMost b a) = true := (same_iff a b).2 h
theorem apart_no {a b : List Int} (h : atMost a b = true ∨ atMost b a = true) : (!atMost a b && !atMost b a) = false := by
  rcases h with h | h <;> simp [h]
theorem zero_long (a : List Int) (A_a : Option Addr) (c_a : Nat) (w : World) (hl : 500 < a.length) (h_a : a.length ≤ 9223372036854775807) :
    Calls Tryd.prog 6 #[.slice A_a a.length c_a] w (Ret w (.bool true)) := by
  have h0 : 500 < a.length := by omega
  clear hl
  go_enter Tryd.func6, Tryd.ntmps6
  go_wp2_with fail
  refine (alive_any w).mono ?_
  rintro e w1 ⟨rfl, hb1⟩
  go_wp2_with fail
  go_ret
  exact ⟨rfl, hb1⟩
theorem zero_any (a : List Int) (A_a : Option Addr) (c_a : Nat) (w : World) (r_a : RI w A_a a) (l_a : a.length ≤ 500) :
    Calls Tryd.prog 6 #[.slice A_a a.length c_a] w (Ret w (.bool true)) := by
  have hb : Below w.heap.size w w := Below.refl _ _
  go_enter Tryd.func6, Tryd.ntmps6
  go_wp2_with fail
  refine (alive_any w).mono ?_
  rintro e w1 ⟨rfl, hbx⟩
  replace r_a := r_a.later hbx
  replace hb := below_next hb hbx
  clear hbx
  go_wp2_with fail
  have r_n := ri_nil w1 none
  go_wp2_with fail
  have hj := atMost_any ([]) (a) none A_a 0 c_a w1 r_n r_a (by repeat (first | omega | exact Nat.zero_le _ | apply lens_join)) (by repeat (first | omega | exact Nat.zero_le _ | apply lens_join))
  rw [atMost_yes (fun g => by rw [getL_nil]; exact getL_nonneg _ _)] at hj
  refine hj.mono ?_
  rintro e w2 ⟨rfl, hbx⟩
  clear hj
  replace r_a := r_a.later hbx
  replace r_n := r_n.later hbx
  replace hb := below_next hb hbx
  clear hbx
  go_wp2_with fail
  have hj := join_any (a) ([]) A_a none c_a 0 w2 r_a r_n (by repeat (first | omega | exact Nat.zero_le _ | apply lens_join)) (by repeat (first | omega | exact Nat.zero_le _ | apply lens_join))
  refine hj.mono ?_
  rintro e w3 ⟨v, rfl, ho, hbx⟩
  clear hj
  obtain ⟨A_j1, c_j1, rfl, _, r_j1⟩ := ho.ri
  clear ho
  replace r_a := r_a.later hbx
  replace r_n := r_n.later hbx
  replace hb := below_next hb hbx
  clear hbx
  go_wp2_with fail
  have hj := same_any (joinL (a) ([])) (a) A_j1 A_a c_j1 c_a w3 r_j1 r_a (by repeat (first | omega | exact Nat.zero_le _ | apply lens_join)) (by repeat (first | omega | exact Nat.zero_le _ | apply lens_join))
  rw [same_yes (fun g => by rw [getL_join, getL_nil]; have := getL_nonneg a g; omega)] at hj
  refine hj.mono ?_
  rintro e w4 ⟨rfl, hbx⟩
  clear hj
  replace r_a := r_a.later hbx
  replace r_n := r_n.later hbx
  replace r_j1 := r_j1.later hbx
  replace hb := below_next hb hbx
  clear hbx
  go_wp2_with fail
  have hj := join_any ([]) (a) none A_a 0 c_a w4 r_n r_a (by repeat (first | omega | exact Nat.zero_le _ | apply lens_join)) (by repeat (first | omega | exact Nat.zero_le _ | apply lens_join))
  refine hj.mono ?_
  rintro e w5 ⟨v, rfl, ho, hbx⟩
  clear hj
  obtain ⟨A_j2, c_j2, rfl, _, r_j2⟩ := ho.ri
  clear ho
  replace r_a := r_a.later hbx
  replace r_n := r_n.later hbx
  replace r_j1 := r_j1.later hbx
  replace hb := below_next hb hbx
  clear hbx
  go_wp2_with fail
  have hj := same_any (joinL ([]) (a)) (a) A_j2 A_a c_j2 c_a w5 r_j2 r_a (by repeat (first | omega | exact Nat.zero_le _ | apply lens_join)) (by repeat (first | omega | exact Nat.zero_le _ | apply lens_join))
  rw [same_yes (fun g => by rw [getL_join, getL_nil]; have := getL_nonneg a g; omega)] at hj
  refine hj.mono ?_
  rintro e w6 ⟨rfl, hbx⟩
  clear hj
  replace r_a := r_a.later hbx
  replace r_n := r_n.later hbx
  replace r_j1 := r_j1.later hbx
  replace r_j2 := r_j2.later hbx
  replace hb := below_next hb hbx
  clear hbx
  go_wp2_with fail
  have hj := apart_any (a) ([]) A_a none c_a 0 w6 r_a r_n (by repeat (first | omega | exact Nat.zero_le _ | apply lens_join)) (by repeat (first | omega | exact Nat.zero_le _ | apply lens_join))
  rw [apart_no (.inr (atMost_yes (fun g => by rw [getL_nil]; exact getL_nonneg _ _)))] at hj
  refine hj.mono ?_
  rintro e w7 ⟨rfl, hbx⟩
  clear hj
  replace r_a := r_a.later hbx
  replace r_n := r_n.later hbx
  replace r_j1 := r_j1.later hbx
  replace r_j2 := r_j2.later hbx
  replace hb := below_next hb hbx
  clear hbx
  go_wp2_with fail
  have hj := atMost_any (a) ([]) A_a none c_a 0 w7 r_a r_n (by repeat (first | omega | exact Nat.zero_le _ | apply lens_join)) (by repeat (first | omega | exact Nat.zero_le _ | apply lens_join))
  refine hj.mono ?_
  rintro e w8 ⟨rfl, hbx⟩
  clear hj
  replace r_a := r_a.later hbx
  replace r_n := r_n.later hbx
  replace r_j1 := r_j1.later hbx
  replace r_j2 := r_j2.later hbx
  replace hb := below_next hb hbx
  clear hbx
  go_wp2_with fail
  have hj := short_any (a) A_a c_a w8 r_a (by repeat (first | omega | exact Nat.zero_le _ | apply lens_join))
  refine hj.mono ?_
  rintro e w9 ⟨v, rfl, ho, hbx⟩
  clear hj
  obtain ⟨A_s, c_s, rfl, _, r_s⟩ := ho.ri
  clear ho
  replace r_a := r_a.later hbx
  replace r_n := r_n.later hbx
  replace r_j1 := r_j1.later hbx
  replace r_j2 := r_j2.later hbx
  replace hb := below_next hb hbx
  clear hbx
  by_cases hz : joinL a [] = []
  · have hz1 : atMost a [] = true := by unfold atMost; rw [hz]; rfl
    rw [hz1]
    have hz2 : (((joinL a []).length : Int) == 0) = true := by rw [hz]; rfl
    clear hz hz1
    go_wp2_with fail
    go_ret
    exact ⟨rfl, hb⟩
  · have hz1 : atMost a [] = false := by unfold atMost; exact decide_eq_false hz
    rw [hz1]
    have hz2 : (((joinL a []).length : Int) == 0) = false := by have : ¬ (joinL a []).length = 0 := fun h => hz (List.eq_nil_of_length_eq_zero h)
                                                                simpa using hz
    clear hz hz1
    go_wp2_with fail
    go_ret
    exact ⟨rfl, hb⟩
end Go.Proofs.YtcipikacgkkapaaDoor
