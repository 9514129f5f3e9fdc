/-
  ClockShorts: a short form is the same clock, its own short form, and no longer; it ends in no 0: the law's walk.
-/
import Derived.Test.YtcipikacgkkapaaDoorWd
import Derived.Test.YtcipikacgkkapaaDoorPlain
namespace Go.Proofs.YtcipikacgkkapaaDoor
open Go.RowKit Go.Stk
attribute [local go_sem] max2_int max_two

theorem lens_join {a b : List Int} (ha : a.length ≤ 1000000000) (hb : b.length ≤ 1000000000) : (joinL a b).length ≤ 1000000000 :=
  Nat.le_trans (joinL_len a b) (by omega)
theorem atMost_yes {a b : List Int} (h : ∀ g : Int, getL a g ≤ getL b g) : atMost a b = true := (atMost_iff a b).2 h
theorem same_yes {a b : List Int} (h : ∀ g : Int, getL a g = getL b g) : (atMost a b && atMost b a) = true := (same_iff a b).2 h
theorem apart_no {a b : List Int} (h : atMost a b = true ∨ atMost b a = true) : (!atMost a b && !atMost b a) = false := by
  rcases h with h | h <;> simp [h]
theorem shortL_idem (a : List Int) : joinL (joinL a []) [] = joinL a [] := by
  refine joinL_ext fun g => ?_
  rw [getL_join, getL_nil]; omega
theorem joinL_pos (a b : List Int) (k : Nat) : 0 ≤ (joinL a b).getD k 0 := by
  unfold joinL
  rw [trim_getD, joinRaw_getD _ _ _ _ (Nat.le_refl _)]
  have := getL_nonneg a k
  omega
theorem joinL_last (a b : List Int) (h : 0 < (joinL a b).length) : 0 < (joinL a b).getD ((joinL a b).length - 1) 0 := by
  have h1 := joinL_pos a b ((joinL a b).length - 1)
  have h2 : (joinL a b).getD ((joinL a b).length - 1) 0 ≠ 0 := trim_last _ h
  omega
theorem lens_short {a : List Int} : (joinL a []).length ≤ a.length := Nat.le_trans (joinL_len a []) (by simp)
theorem shorts_long (a : List Int) (A_a : Option Addr) (c_a : Nat) (w : World) (hl : 500 < a.length) (h_a : a.length ≤ 9223372036854775807) :
    Calls Tryd.prog 5 #[.slice A_a a.length c_a] w (Ret w (.bool true)) := by
  have h0 : 500 < a.length := by omega
  clear hl
  go_enter Tryd.func5, Tryd.ntmps5
  go_wp2_with fail
  refine (alive_any w).mono ?_
  rintro e w1 ⟨rfl, hb1⟩
  go_wp2_with fail
  go_ret
  exact ⟨rfl, hb1⟩
theorem shorts_any (a : List Int) (A_a : Option Addr) (c_a : Nat) (w : World) (r_a : RI w A_a a) (l_a : a.length ≤ 500) :
    Calls Tryd.prog 5 #[.slice A_a a.length c_a] w (Ret w (.bool true)) := by
  have hd0 : decide (500 < (a.length : Int)) = false := decide_eq_false (by omega)
  have hb : Below w.heap.size w w := Below.refl _ _
  go_enter Tryd.func5, Tryd.ntmps5
  go_wp2_with fail
  refine (alive_any w).mono ?_
  rintro e w1 ⟨rfl, hbx⟩
  replace r_a := r_a.later hbx
  replace hb := below_next hb hbx
  clear hbx
  go_wp2_with fail
  have hj := short_any (a) A_a c_a w1 r_a (by repeat (first | omega | exact Nat.zero_le _ | apply lens_join))
  refine hj.mono ?_
  rintro e w2 ⟨v, rfl, ho, hbx⟩
  clear hj
  obtain ⟨A_s, c_s, rfl, _, r_s⟩ := ho.ri
  clear ho
  replace r_a := r_a.later hbx
  replace hb := below_next hb hbx
  clear hbx
  go_wp2_with fail
  have hj := short_any (joinL a []) A_s c_s w2 r_s (by repeat (first | omega | exact Nat.zero_le _ | apply lens_join))
  refine hj.mono ?_
  rintro e w3 ⟨v, rfl, ho, hbx⟩
  clear hj
  obtain ⟨A_t, c_t, rfl, _, r_t⟩ := ho.ri
  clear ho
  replace r_a := r_a.later hbx
  replace r_s := r_s.later hbx
  replace hb := below_next hb hbx
  clear hbx
  rw [shortL_idem] at r_t ⊢
  obtain ⟨S, hS⟩ : ∃ S, S = joinL a [] := ⟨_, rfl⟩
  have hpos : Hid (∀ k : Nat, 0 ≤ S.getD k 0) := fun k => by rw [hS]; exact joinL_pos a [] k
  have hlast : 0 < S.length → 0 < S.getD (S.length - 1) 0 := by rw [hS]; exact joinL_last a []
  have hle : S.length ≤ a.length := by rw [hS]; exact lens_short
  have hsame : Hid ((atMost S a && atMost a S) = true) := same_yes (fun g => by rw [hS, getL_join, getL_nil]; have := getL_nonneg a g; omega)
  rw [← hS] at r_s r_t ⊢
  clear hS
  have hd1 : decide (a.length < S.length) = false := decide_eq_false (by omega)
  by_cases hz : 0 < S.length
  · skip
    go_wp2_with fail
    have hj := same_any (S) (a) A_s A_a c_s c_a w3 r_s r_a (by repeat (first | omega | exact Nat.zero_le _ | apply lens_join)) (by repeat (first | omega | exact Nat.zero_le _ | apply lens_join))
    rw [hsame.out] at hj
    refine hj.mono ?_
    rintro e w4 ⟨rfl, hbx⟩
    clear hj
    replace r_a := r_a.later hbx
    replace r_s := r_s.later hbx
    replace r_t := r_t.later hbx
    replace hb := below_next hb hbx
    clear hbx
    obtain ⟨b, off, rfl, hcell⟩ := r_s.at (S.length - 1) (by omega)
    have hl := hlast hz
    obtain ⟨y, hy⟩ : ∃ y, S.getD (S.length - 1) 0 = y := ⟨_, rfl⟩
    rw [hy] at hcell hl
    clear hy hlast
    have hd2 : decide (y ≤ 0) = false := decide_eq_false (by omega)
    go_wp2_with fail
    clear hcell hl
    go_loop [50] (fun i => ∃ k : Nat, k ≤ S.length ∧ i = .int .i64 k) (fun i => S.length - (intOf i).toNat)
    case atStart => exact ⟨0, Nat.zero_le _, rfl⟩
    case round =>
      obtain ⟨k, hk, rfl⟩ := hrel
      by_cases hlt : k < S.length
      · obtain ⟨b1, o1, e1, c1⟩ := r_s.at k hlt
        obtain ⟨b2, o2, rfl, c2⟩ := r_t.at k hlt
        injection e1 with e1; injection e1 with e11 e12 _; subst e11; subst e12
        have hp := hpos.out k
        obtain ⟨x, hx⟩ : ∃ x, S.getD k 0 = x := ⟨_, rfl⟩
        rw [hx] at c1 c2 hp
        clear hx
        go_wp2_with fail
        go_round
        case rel => exact ⟨k+1, by omega, by go_num⟩
        case measure => simp [intOf]; omega
      · go_wp2_with fail
        go_ret
        exact ⟨rfl, hb⟩
  · skip
    have hz0 : S.length ≤ 0 := by omega
    have hd3 : decide (0 < S.length) = false := decide_eq_false (by omega)
    go_wp2_with fail
    have hj := same_any (S) (a) A_s A_a c_s c_a w3 r_s r_a (by repeat (first | omega | exact Nat.zero_le _ | apply lens_join)) (by repeat (first | omega | exact Nat.zero_le _ | apply lens_join))
    rw [hsame.out] at hj
    refine hj.mono ?_
    rintro e w4 ⟨rfl, hbx⟩
    clear hj
    replace r_a := r_a.later hbx
    replace r_s := r_s.later hbx
    replace r_t := r_t.later hbx
    replace hb := below_next hb hbx
    clear hbx
    clear hlast
    go_wp2_with fail
    go_loop [50] (fun i => ∃ k : Nat, k ≤ S.length ∧ i = .int .i64 k) (fun i => S.length - (intOf i).toNat)
    case atStart => exact ⟨0, Nat.zero_le _, rfl⟩
    case round =>
      obtain ⟨k, hk, rfl⟩ := hrel
      have hlt : ¬ k < S.length := by omega
      · go_wp2_with fail
        go_ret
        exact ⟨rfl, hb⟩
end Go.Proofs.YtcipikacgkkapaaDoor
