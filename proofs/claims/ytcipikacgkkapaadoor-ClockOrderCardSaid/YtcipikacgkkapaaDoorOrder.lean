/-
  ClockOrder: AtMost is an order, and Join the least above both: the law's walk.
-/
import Derived.Test.YtcipikacgkkapaaDoorWd
import Derived.Test.YtcipikacgkkapaaDoorPlain
namespace Go.Proofs.YtcipikacgkkapaaDoor
open Go.RowKit Go.Stk
attribute [local go_sem] max2_int max_two

theorem lens_join {a b : List Int} (ha : a.length ≤ 1000000000) (hb : b.length ≤ 1000000000) : (joinL a b).length ≤ 1000000000 :=
  Nat.le_trans (joinL_len a b) (by omega)
theorem atMost_yes {a b : List Int} (h : ∀ g : Int, getL a g ≤ getL b g) : atMost a b = true := (atMost_iff a b).2 h
theorem same_yes {a b : List Int} (h : ∀ g : Int, getL a g = getL b g) : (atMost a b && atMost b a) = true := (same_iff a b).2 h
theorem apart_no {a b : List Int} (h : atMost a b = true ∨ atMost b a = true) : (!atMost a b && !atMost b a) = false := by
  rcases h with h | h <;> simp [h]
theorem join_most {a b c : List Int} {q : Bool} (h1 : atMost a c = true) (h2 : atMost b c = q) : atMost (joinL a b) c = q := by
  have e : atMost (joinL a b) c = true ↔ atMost b c = true := by
    rw [atMost_iff, atMost_iff]
    rw [atMost_iff] at h1
    constructor
    · intro h g; have h3 := h g; rw [getL_join] at h3; omega
    · intro h g; have h3 := h g; have h4 := h1 g; rw [getL_join]; omega
  rw [← h2]
  exact Bool.eq_iff_iff.2 e
theorem order_long (a : List Int) (b : List Int) (c : List Int) (A_a : Option Addr) (A_b : Option Addr) (A_c : Option Addr) (c_a : Nat) (c_b : Nat) (c_c : Nat) (w : World) (hl : 500 < a.length ∨ 500 < b.length ∨ 500 < c.length) (h_a : a.length ≤ 9223372036854775807) (h_b : b.length ≤ 9223372036854775807) (h_c : c.length ≤ 9223372036854775807) :
    Calls Tryd.prog 4 #[.slice A_a a.length c_a, .slice A_b b.length c_b, .slice A_c c.length c_c] w (Ret w (.bool true)) := by
  by_cases h0 : 500 < a.length
  · go_enter Tryd.func4, Tryd.ntmps4
    go_wp2_with fail
    refine (alive_any w).mono ?_
    rintro e w1 ⟨rfl, hb1⟩
    go_wp2_with fail
    go_ret
    exact ⟨rfl, hb1⟩
  · skip
    by_cases h1 : 500 < b.length
    · go_enter Tryd.func4, Tryd.ntmps4
      go_wp2_with fail
      refine (alive_any w).mono ?_
      rintro e w1 ⟨rfl, hb1⟩
      go_wp2_with fail
      go_ret
      exact ⟨rfl, hb1⟩
    · skip
      have h2 : 500 < c.length := by omega
      clear hl
      go_enter Tryd.func4, Tryd.ntmps4
      go_wp2_with fail
      refine (alive_any w).mono ?_
      rintro e w1 ⟨rfl, hb1⟩
      go_wp2_with fail
      go_ret
      exact ⟨rfl, hb1⟩
set_option maxHeartbeats 4000000 in
theorem order_000 (a : List Int) (b : List Int) (c : List Int) (A_a : Option Addr) (A_b : Option Addr) (A_c : Option Addr) (c_a : Nat) (c_b : Nat) (c_c : Nat) (w : World) (r_a : RI w A_a a) (r_b : RI w A_b b) (r_c : RI w A_c c) (l_a : a.length ≤ 500) (l_b : b.length ≤ 500) (l_c : c.length ≤ 500) (hp0 : Hid (atMost a b = false)) (hr0 : Hid (atMost a c = false)) :
    Calls Tryd.prog 4 #[.slice A_a a.length c_a, .slice A_b b.length c_b, .slice A_c c.length c_c] w (Ret w (.bool true)) := by
  have hb : Below w.heap.size w w := Below.refl _ _
  go_enter Tryd.func4, Tryd.ntmps4
  go_wp2_with fail
  refine (alive_any w).mono ?_
  rintro e w1 ⟨rfl, hbx⟩
  replace r_a := r_a.later hbx
  replace r_b := r_b.later hbx
  replace r_c := r_c.later hbx
  replace hb := below_next hb hbx
  clear hbx
  go_wp2_with fail
  have hj := join_any (a) (b) A_a A_b c_a c_b w1 r_a r_b (by repeat (first | omega | exact Nat.zero_le _ | apply lens_join)) (by repeat (first | omega | exact Nat.zero_le _ | apply lens_join))
  refine hj.mono ?_
  rintro e w2 ⟨v, rfl, ho, hbx⟩
  clear hj
  obtain ⟨A_j, c_j, rfl, _, r_j⟩ := ho.ri
  clear ho
  replace r_a := r_a.later hbx
  replace r_b := r_b.later hbx
  replace r_c := r_c.later hbx
  replace hb := below_next hb hbx
  clear hbx
  go_wp2_with fail
  have hj := atMost_any (a) (a) A_a A_a c_a c_a w2 r_a r_a (by repeat (first | omega | exact Nat.zero_le _ | apply lens_join)) (by repeat (first | omega | exact Nat.zero_le _ | apply lens_join))
  rw [atMost_yes (fun g => Int.le_refl _)] at hj
  refine hj.mono ?_
  rintro e w3 ⟨rfl, hbx⟩
  clear hj
  replace r_a := r_a.later hbx
  replace r_b := r_b.later hbx
  replace r_c := r_c.later hbx
  replace r_j := r_j.later hbx
  replace hb := below_next hb hbx
  clear hbx
  go_wp2_with fail
  have hj := atMost_any (a) (b) A_a A_b c_a c_b w3 r_a r_b (by repeat (first | omega | exact Nat.zero_le _ | apply lens_join)) (by repeat (first | omega | exact Nat.zero_le _ | apply lens_join))
  rw [hp0.out] at hj
  refine hj.mono ?_
  rintro e w4 ⟨rfl, hbx⟩
  clear hj
  replace r_a := r_a.later hbx
  replace r_b := r_b.later hbx
  replace r_c := r_c.later hbx
  replace r_j := r_j.later hbx
  replace hb := below_next hb hbx
  clear hbx
  go_wp2_with fail
  have hj := atMost_any (a) (joinL (a) (b)) A_a A_j c_a c_j w4 r_a r_j (by repeat (first | omega | exact Nat.zero_le _ | apply lens_join)) (by repeat (first | omega | exact Nat.zero_le _ | apply lens_join))
  rw [atMost_yes (fun g => by simp only [getL_join]; omega)] at hj
  refine hj.mono ?_
  rintro e w5 ⟨rfl, hbx⟩
  clear hj
  replace r_a := r_a.later hbx
  replace r_b := r_b.later hbx
  replace r_c := r_c.later hbx
  replace r_j := r_j.later hbx
  replace hb := below_next hb hbx
  clear hbx
  go_wp2_with fail
  have hj := atMost_any (b) (joinL (a) (b)) A_b A_j c_b c_j w5 r_b r_j (by repeat (first | omega | exact Nat.zero_le _ | apply lens_join)) (by repeat (first | omega | exact Nat.zero_le _ | apply lens_join))
  rw [atMost_yes (fun g => by simp only [getL_join]; omega)] at hj
  refine hj.mono ?_
  rintro e w6 ⟨rfl, hbx⟩
  clear hj
  replace r_a := r_a.later hbx
  replace r_b := r_b.later hbx
  replace r_c := r_c.later hbx
  replace r_j := r_j.later hbx
  replace hb := below_next hb hbx
  clear hbx
  go_wp2_with fail
  have hj := atMost_any (a) (c) A_a A_c c_a c_c w6 r_a r_c (by repeat (first | omega | exact Nat.zero_le _ | apply lens_join)) (by repeat (first | omega | exact Nat.zero_le _ | apply lens_join))
  rw [hr0.out] at hj
  refine hj.mono ?_
  rintro e w7 ⟨rfl, hbx⟩
  clear hj
  replace r_a := r_a.later hbx
  replace r_b := r_b.later hbx
  replace r_c := r_c.later hbx
  replace r_j := r_j.later hbx
  replace hb := below_next hb hbx
  clear hbx
  go_wp2_with fail
  have hj := join_any (b) (a) A_b A_a c_b c_a w7 r_b r_a (by repeat (first | omega | exact Nat.zero_le _ | apply lens_join)) (by repeat (first | omega | exact Nat.zero_le _ | apply lens_join))
  refine hj.mono ?_
  rintro e w8 ⟨v, rfl, ho, hbx⟩
  clear hj
  obtain ⟨A_ba, c_ba, rfl, _, r_ba⟩ := ho.ri
  clear ho
  replace r_a := r_a.later hbx
  replace r_b := r_b.later hbx
  replace r_c := r_c.later hbx
  replace r_j := r_j.later hbx
  replace hb := below_next hb hbx
  clear hbx
  go_wp2_with fail
  have hj := same_any (joinL (a) (b)) (joinL (b) (a)) A_j A_ba c_j c_ba w8 r_j r_ba (by repeat (first | omega | exact Nat.zero_le _ | apply lens_join)) (by repeat (first | omega | exact Nat.zero_le _ | apply lens_join))
  rw [same_yes (fun g => by simp only [getL_join]; omega)] at hj
  refine hj.mono ?_
  rintro e w9 ⟨rfl, hbx⟩
  clear hj
  replace r_a := r_a.later hbx
  replace r_b := r_b.later hbx
  replace r_c := r_c.later hbx
  replace r_j := r_j.later hbx
  replace r_ba := r_ba.later hbx
  replace hb := below_next hb hbx
  clear hbx
  go_wp2_with fail
  have hj := join_any (joinL (a) (b)) (c) A_j A_c c_j c_c w9 r_j r_c (by repeat (first | omega | exact Nat.zero_le _ | apply lens_join)) (by repeat (first | omega | exact Nat.zero_le _ | apply lens_join))
  refine hj.mono ?_
  rintro e w10 ⟨v, rfl, ho, hbx⟩
  clear hj
  obtain ⟨A_jc, c_jc, rfl, _, r_jc⟩ := ho.ri
  clear ho
  replace r_a := r_a.later hbx
  replace r_b := r_b.later hbx
  replace r_c := r_c.later hbx
  replace r_j := r_j.later hbx
  replace r_ba := r_ba.later hbx
  replace hb := below_next hb hbx
  clear hbx
  go_wp2_with fail
  have hj := join_any (b) (c) A_b A_c c_b c_c w10 r_b r_c (by repeat (first | omega | exact Nat.zero_le _ | apply lens_join)) (by repeat (first | omega | exact Nat.zero_le _ | apply lens_join))
  refine hj.mono ?_
  rintro e w11 ⟨v, rfl, ho, hbx⟩
  clear hj
  obtain ⟨A_bc, c_bc, rfl, _, r_bc⟩ := ho.ri
  clear ho
  replace r_a := r_a.later hbx
  replace r_b := r_b.later hbx
  replace r_c := r_c.later hbx
  replace r_j := r_j.later hbx
  replace r_ba := r_ba.later hbx
  replace r_jc := r_jc.later hbx
  replace hb := below_next hb hbx
  clear hbx
  go_wp2_with fail
  have hj := join_any (a) (joinL (b) (c)) A_a A_bc c_a c_bc w11 r_a r_bc (by repeat (first | omega | exact Nat.zero_le _ | apply lens_join)) (by repeat (first | omega | exact Nat.zero_le _ | apply lens_join))
  refine hj.mono ?_
  rintro e w12 ⟨v, rfl, ho, hbx⟩
  clear hj
  obtain ⟨A_abc, c_abc, rfl, _, r_abc⟩ := ho.ri
  clear ho
  replace r_a := r_a.later hbx
  replace r_b := r_b.later hbx
  replace r_c := r_c.later hbx
  replace r_j := r_j.later hbx
  replace r_ba := r_ba.later hbx
  replace r_jc := r_jc.later hbx
  replace r_bc := r_bc.later hbx
  replace hb := below_next hb hbx
  clear hbx
  go_wp2_with fail
  have hj := same_any (joinL (joinL (a) (b)) (c)) (joinL (a) (joinL (b) (c))) A_jc A_abc c_jc c_abc w12 r_jc r_abc (by repeat (first | omega | exact Nat.zero_le _ | apply lens_join)) (by repeat (first | omega | exact Nat.zero_le _ | apply lens_join))
  rw [same_yes (fun g => by simp only [getL_join]; omega)] at hj
  refine hj.mono ?_
  rintro e w13 ⟨rfl, hbx⟩
  clear hj
  replace r_a := r_a.later hbx
  replace r_b := r_b.later hbx
  replace r_c := r_c.later hbx
  replace r_j := r_j.later hbx
  replace r_ba := r_ba.later hbx
  replace r_jc := r_jc.later hbx
  replace r_bc := r_bc.later hbx
  replace r_abc := r_abc.later hbx
  replace hb := below_next hb hbx
  clear hbx
  go_wp2_with fail
  have hj := join_any (a) (a) A_a A_a c_a c_a w13 r_a r_a (by repeat (first | omega | exact Nat.zero_le _ | apply lens_join)) (by repeat (first | omega | exact Nat.zero_le _ | apply lens_join))
  refine hj.mono ?_
  rintro e w14 ⟨v, rfl, ho, hbx⟩
  clear hj
  obtain ⟨A_aa, c_aa, rfl, _, r_aa⟩ := ho.ri
  clear ho
  replace r_a := r_a.later hbx
  replace r_b := r_b.later hbx
  replace r_c := r_c.later hbx
  replace r_j := r_j.later hbx
  replace r_ba := r_ba.later hbx
  replace r_jc := r_jc.later hbx
  replace r_bc := r_bc.later hbx
  replace r_abc := r_abc.later hbx
  replace hb := below_next hb hbx
  clear hbx
  go_wp2_with fail
  have hj := same_any (joinL (a) (a)) (a) A_aa A_a c_aa c_a w14 r_aa r_a (by repeat (first | omega | exact Nat.zero_le _ | apply lens_join)) (by repeat (first | omega | exact Nat.zero_le _ | apply lens_join))
  rw [same_yes (fun g => by simp only [getL_join]; omega)] at hj
  refine hj.mono ?_
  rintro e w15 ⟨rfl, hbx⟩
  clear hj
  replace r_a := r_a.later hbx
  replace r_b := r_b.later hbx
  replace r_c := r_c.later hbx
  replace r_j := r_j.later hbx
  replace r_ba := r_ba.later hbx
  replace r_jc := r_jc.later hbx
  replace r_bc := r_bc.later hbx
  replace r_abc := r_abc.later hbx
  replace r_aa := r_aa.later hbx
  replace hb := below_next hb hbx
  clear hbx
  go_wp2_with fail
  go_ret
  exact ⟨rfl, hb⟩
set_option maxHeartbeats 4000000 in
theorem order_001 (a : List Int) (b : List Int) (c : List Int) (A_a : Option Addr) (A_b : Option Addr) (A_c : Option Addr) (c_a : Nat) (c_b : Nat) (c_c : Nat) (w : World) (r_a : RI w A_a a) (r_b : RI w A_b b) (r_c : RI w A_c c) (l_a : a.length ≤ 500) (l_b : b.length ≤ 500) (l_c : c.length ≤ 500) (hp0 : Hid (atMost a b = false)) (hq0 : Hid (atMost b c = false)) (hr0 : Hid (atMost a c = true)) :
    Calls Tryd.prog 4 #[.slice A_a a.length c_a, .slice A_b b.length c_b, .slice A_c c.length c_c] w (Ret w (.bool true)) := by
  have hb : Below w.heap.size w w := Below.refl _ _
  go_enter Tryd.func4, Tryd.ntmps4
  go_wp2_with fail
  refine (alive_any w).mono ?_
  rintro e w1 ⟨rfl, hbx⟩
  replace r_a := r_a.later hbx
  replace r_b := r_b.later hbx
  replace r_c := r_c.later hbx
  replace hb := below_next hb hbx
  clear hbx
  go_wp2_with fail
  have hj := join_any (a) (b) A_a A_b c_a c_b w1 r_a r_b (by repeat (first | omega | exact Nat.zero_le _ | apply lens_join)) (by repeat (first | omega | exact Nat.zero_le _ | apply lens_join))
  refine hj.mono ?_
  rintro e w2 ⟨v, rfl, ho, hbx⟩
  clear hj
  obtain ⟨A_j, c_j, rfl, _, r_j⟩ := ho.ri
  clear ho
  replace r_a := r_a.later hbx
  replace r_b := r_b.later hbx
  replace r_c := r_c.later hbx
  replace hb := below_next hb hbx
  clear hbx
  go_wp2_with fail
  have hj := atMost_any (a) (a) A_a A_a c_a c_a w2 r_a r_a (by repeat (first | omega | exact Nat.zero_le _ | apply lens_join)) (by repeat (first | omega | exact Nat.zero_le _ | apply lens_join))
  rw [atMost_yes (fun g => Int.le_refl _)] at hj
  refine hj.mono ?_
  rintro e w3 ⟨rfl, hbx⟩
  clear hj
  replace r_a := r_a.later hbx
  replace r_b := r_b.later hbx
  replace r_c := r_c.later hbx
  replace r_j := r_j.later hbx
  replace hb := below_next hb hbx
  clear hbx
  go_wp2_with fail
  have hj := atMost_any (a) (b) A_a A_b c_a c_b w3 r_a r_b (by repeat (first | omega | exact Nat.zero_le _ | apply lens_join)) (by repeat (first | omega | exact Nat.zero_le _ | apply lens_join))
  rw [hp0.out] at hj
  refine hj.mono ?_
  rintro e w4 ⟨rfl, hbx⟩
  clear hj
  replace r_a := r_a.later hbx
  replace r_b := r_b.later hbx
  replace r_c := r_c.later hbx
  replace r_j := r_j.later hbx
  replace hb := below_next hb hbx
  clear hbx
  go_wp2_with fail
  have hj := atMost_any (a) (joinL (a) (b)) A_a A_j c_a c_j w4 r_a r_j (by repeat (first | omega | exact Nat.zero_le _ | apply lens_join)) (by repeat (first | omega | exact Nat.zero_le _ | apply lens_join))
  rw [atMost_yes (fun g => by simp only [getL_join]; omega)] at hj
  refine hj.mono ?_
  rintro e w5 ⟨rfl, hbx⟩
  clear hj
  replace r_a := r_a.later hbx
  replace r_b := r_b.later hbx
  replace r_c := r_c.later hbx
  replace r_j := r_j.later hbx
  replace hb := below_next hb hbx
  clear hbx
  go_wp2_with fail
  have hj := atMost_any (b) (joinL (a) (b)) A_b A_j c_b c_j w5 r_b r_j (by repeat (first | omega | exact Nat.zero_le _ | apply lens_join)) (by repeat (first | omega | exact Nat.zero_le _ | apply lens_join))
  rw [atMost_yes (fun g => by simp only [getL_join]; omega)] at hj
  refine hj.mono ?_
  rintro e w6 ⟨rfl, hbx⟩
  clear hj
  replace r_a := r_a.later hbx
  replace r_b := r_b.later hbx
  replace r_c := r_c.later hbx
  replace r_j := r_j.later hbx
  replace hb := below_next hb hbx
  clear hbx
  go_wp2_with fail
  have hj := atMost_any (a) (c) A_a A_c c_a c_c w6 r_a r_c (by repeat (first | omega | exact Nat.zero_le _ | apply lens_join)) (by repeat (first | omega | exact Nat.zero_le _ | apply lens_join))
  rw [hr0.out] at hj
  refine hj.mono ?_
  rintro e w7 ⟨rfl, hbx⟩
  clear hj
  replace r_a := r_a.later hbx
  replace r_b := r_b.later hbx
  replace r_c := r_c.later hbx
  replace r_j := r_j.later hbx
  replace hb := below_next hb hbx
  clear hbx
  go_wp2_with fail
  have hj := atMost_any (b) (c) A_b A_c c_b c_c w7 r_b r_c (by repeat (first | omega | exact Nat.zero_le _ | apply lens_join)) (by repeat (first | omega | exact Nat.zero_le _ | apply lens_join))
  rw [hq0.out] at hj
  refine hj.mono ?_
  rintro e w8 ⟨rfl, hbx⟩
  clear hj
  replace r_a := r_a.later hbx
  replace r_b := r_b.later hbx
  replace r_c := r_c.later hbx
  replace r_j := r_j.later hbx
  replace hb := below_next hb hbx
  clear hbx
  go_wp2_with fail
  have hj := atMost_any (joinL (a) (b)) (c) A_j A_c c_j c_c w8 r_j r_c (by repeat (first | omega | exact Nat.zero_le _ | apply lens_join)) (by repeat (first | omega | exact Nat.zero_le _ | apply lens_join))
  rw [join_most hr0.out hq0.out] at hj
  refine hj.mono ?_
  rintro e w9 ⟨rfl, hbx⟩
  clear hj
  replace r_a := r_a.later hbx
  replace r_b := r_b.later hbx
  replace r_c := r_c.later hbx
  replace r_j := r_j.later hbx
  replace hb := below_next hb hbx
  clear hbx
  go_wp2_with fail
  have hj := join_any (b) (a) A_b A_a c_b c_a w9 r_b r_a (by repeat (first | omega | exact Nat.zero_le _ | apply lens_join)) (by repeat (first | omega | exact Nat.zero_le _ | apply lens_join))
  refine hj.mono ?_
  rintro e w10 ⟨v, rfl, ho, hbx⟩
  clear hj
  obtain ⟨A_ba, c_ba, rfl, _, r_ba⟩ := ho.ri
  clear ho
  replace r_a := r_a.later hbx
  replace r_b := r_b.later hbx
  replace r_c := r_c.later hbx
  replace r_j := r_j.later hbx
  replace hb := below_next hb hbx
  clear hbx
  go_wp2_with fail
  have hj := same_any (joinL (a) (b)) (joinL (b) (a)) A_j A_ba c_j c_ba w10 r_j r_ba (by repeat (first | omega | exact Nat.zero_le _ | apply lens_join)) (by repeat (first | omega | exact Nat.zero_le _ | apply lens_join))
  rw [same_yes (fun g => by simp only [getL_join]; omega)] at hj
  refine hj.mono ?_
  rintro e w11 ⟨rfl, hbx⟩
  clear hj
  replace r_a := r_a.later hbx
  replace r_b := r_b.later hbx
  replace r_c := r_c.later hbx
  replace r_j := r_j.later hbx
  replace r_ba := r_ba.later hbx
  replace hb := below_next hb hbx
  clear hbx
  go_wp2_with fail
  have hj := join_any (joinL (a) (b)) (c) A_j A_c c_j c_c w11 r_j r_c (by repeat (first | omega | exact Nat.zero_le _ | apply lens_join)) (by repeat (first | omega | exact Nat.zero_le _ | apply lens_join))
  refine hj.mono ?_
  rintro e w12 ⟨v, rfl, ho, hbx⟩
  clear hj
  obtain ⟨A_jc, c_jc, rfl, _, r_jc⟩ := ho.ri
  clear ho
  replace r_a := r_a.later hbx
  replace r_b := r_b.later hbx
  replace r_c := r_c.later hbx
  replace r_j := r_j.later hbx
  replace r_ba := r_ba.later hbx
  replace hb := below_next hb hbx
  clear hbx
  go_wp2_with fail
  have hj := join_any (b) (c) A_b A_c c_b c_c w12 r_b r_c (by repeat (first | omega | exact Nat.zero_le _ | apply lens_join)) (by repeat (first | omega | exact Nat.zero_le _ | apply lens_join))
  refine hj.mono ?_
  rintro e w13 ⟨v, rfl, ho, hbx⟩
  clear hj
  obtain ⟨A_bc, c_bc, rfl, _, r_bc⟩ := ho.ri
  clear ho
  replace r_a := r_a.later hbx
  replace r_b := r_b.later hbx
  replace r_c := r_c.later hbx
  replace r_j := r_j.later hbx
  replace r_ba := r_ba.later hbx
  replace r_jc := r_jc.later hbx
  replace hb := below_next hb hbx
  clear hbx
  go_wp2_with fail
  have hj := join_any (a) (joinL (b) (c)) A_a A_bc c_a c_bc w13 r_a r_bc (by repeat (first | omega | exact Nat.zero_le _ | apply lens_join)) (by repeat (first | omega | exact Nat.zero_le _ | apply lens_join))
  refine hj.mono ?_
  rintro e w14 ⟨v, rfl, ho, hbx⟩
  clear hj
  obtain ⟨A_abc, c_abc, rfl, _, r_abc⟩ := ho.ri
  clear ho
  replace r_a := r_a.later hbx
  replace r_b := r_b.later hbx
  replace r_c := r_c.later hbx
  replace r_j := r_j.later hbx
  replace r_ba := r_ba.later hbx
  replace r_jc := r_jc.later hbx
  replace r_bc := r_bc.later hbx
  replace hb := below_next hb hbx
  clear hbx
  go_wp2_with fail
  have hj := same_any (joinL (joinL (a) (b)) (c)) (joinL (a) (joinL (b) (c))) A_jc A_abc c_jc c_abc w14 r_jc r_abc (by repeat (first | omega | exact Nat.zero_le _ | apply lens_join)) (by repeat (first | omega | exact Nat.zero_le _ | apply lens_join))
  rw [same_yes (fun g => by simp only [getL_join]; omega)] at hj
  refine hj.mono ?_
  rintro e w15 ⟨rfl, hbx⟩
  clear hj
  replace r_a := r_a.later hbx
  replace r_b := r_b.later hbx
  replace r_c := r_c.later hbx
  replace r_j := r_j.later hbx
  replace r_ba := r_ba.later hbx
  replace r_jc := r_jc.later hbx
  replace r_bc := r_bc.later hbx
  replace r_abc := r_abc.later hbx
  replace hb := below_next hb hbx
  clear hbx
  go_wp2_with fail
  have hj := join_any (a) (a) A_a A_a c_a c_a w15 r_a r_a (by repeat (first | omega | exact Nat.zero_le _ | apply lens_join)) (by repeat (first | omega | exact Nat.zero_le _ | apply lens_join))
  refine hj.mono ?_
  rintro e w16 ⟨v, rfl, ho, hbx⟩
  clear hj
  obtain ⟨A_aa, c_aa, rfl, _, r_aa⟩ := ho.ri
  clear ho
  replace r_a := r_a.later hbx
  replace r_b := r_b.later hbx
  replace r_c := r_c.later hbx
  replace r_j := r_j.later hbx
  replace r_ba := r_ba.later hbx
  replace r_jc := r_jc.later hbx
  replace r_bc := r_bc.later hbx
  replace r_abc := r_abc.later hbx
  replace hb := below_next hb hbx
  clear hbx
  go_wp2_with fail
  have hj := same_any (joinL (a) (a)) (a) A_aa A_a c_aa c_a w16 r_aa r_a (by repeat (first | omega | exact Nat.zero_le _ | apply lens_join)) (by repeat (first | omega | exact Nat.zero_le _ | apply lens_join))
  rw [same_yes (fun g => by simp only [getL_join]; omega)] at hj
  refine hj.mono ?_
  rintro e w17 ⟨rfl, hbx⟩
  clear hj
  replace r_a := r_a.later hbx
  replace r_b := r_b.later hbx
  replace r_c := r_c.later hbx
  replace r_j := r_j.later hbx
  replace r_ba := r_ba.later hbx
  replace r_jc := r_jc.later hbx
  replace r_bc := r_bc.later hbx
  replace r_abc := r_abc.later hbx
  replace r_aa := r_aa.later hbx
  replace hb := below_next hb hbx
  clear hbx
  go_wp2_with fail
  go_ret
  exact ⟨rfl, hb⟩
set_option maxHeartbeats 4000000 in
theorem order_011 (a : List Int) (b : List Int) (c : List Int) (A_a : Option Addr) (A_b : Option Addr) (A_c : Option Addr) (c_a : Nat) (c_b : Nat) (c_c : Nat) (w : World) (r_a : RI w A_a a) (r_b : RI w A_b b) (r_c : RI w A_c c) (l_a : a.length ≤ 500) (l_b : b.length ≤ 500) (l_c : c.length ≤ 500) (hp0 : Hid (atMost a b = false)) (hq0 : Hid (atMost b c = true)) (hr0 : Hid (atMost a c = true)) :
    Calls Tryd.prog 4 #[.slice A_a a.length c_a, .slice A_b b.length c_b, .slice A_c c.length c_c] w (Ret w (.bool true)) := by
  have hb : Below w.heap.size w w := Below.refl _ _
  go_enter Tryd.func4, Tryd.ntmps4
  go_wp2_with fail
  refine (alive_any w).mono ?_
  rintro e w1 ⟨rfl, hbx⟩
  replace r_a := r_a.later hbx
  replace r_b := r_b.later hbx
  replace r_c := r_c.later hbx
  replace hb := below_next hb hbx
  clear hbx
  go_wp2_with fail
  have hj := join_any (a) (b) A_a A_b c_a c_b w1 r_a r_b (by repeat (first | omega | exact Nat.zero_le _ | apply lens_join)) (by repeat (first | omega | exact Nat.zero_le _ | apply lens_join))
  refine hj.mono ?_
  rintro e w2 ⟨v, rfl, ho, hbx⟩
  clear hj
  obtain ⟨A_j, c_j, rfl, _, r_j⟩ := ho.ri
  clear ho
  replace r_a := r_a.later hbx
  replace r_b := r_b.later hbx
  replace r_c := r_c.later hbx
  replace hb := below_next hb hbx
  clear hbx
  go_wp2_with fail
  have hj := atMost_any (a) (a) A_a A_a c_a c_a w2 r_a r_a (by repeat (first | omega | exact Nat.zero_le _ | apply lens_join)) (by repeat (first | omega | exact Nat.zero_le _ | apply lens_join))
  rw [atMost_yes (fun g => Int.le_refl _)] at hj
  refine hj.mono ?_
  rintro e w3 ⟨rfl, hbx⟩
  clear hj
  replace r_a := r_a.later hbx
  replace r_b := r_b.later hbx
  replace r_c := r_c.later hbx
  replace r_j := r_j.later hbx
  replace hb := below_next hb hbx
  clear hbx
  go_wp2_with fail
  have hj := atMost_any (a) (b) A_a A_b c_a c_b w3 r_a r_b (by repeat (first | omega | exact Nat.zero_le _ | apply lens_join)) (by repeat (first | omega | exact Nat.zero_le _ | apply lens_join))
  rw [hp0.out] at hj
  refine hj.mono ?_
  rintro e w4 ⟨rfl, hbx⟩
  clear hj
  replace r_a := r_a.later hbx
  replace r_b := r_b.later hbx
  replace r_c := r_c.later hbx
  replace r_j := r_j.later hbx
  replace hb := below_next hb hbx
  clear hbx
  go_wp2_with fail
  have hj := atMost_any (a) (joinL (a) (b)) A_a A_j c_a c_j w4 r_a r_j (by repeat (first | omega | exact Nat.zero_le _ | apply lens_join)) (by repeat (first | omega | exact Nat.zero_le _ | apply lens_join))
  rw [atMost_yes (fun g => by simp only [getL_join]; omega)] at hj
  refine hj.mono ?_
  rintro e w5 ⟨rfl, hbx⟩
  clear hj
  replace r_a := r_a.later hbx
  replace r_b := r_b.later hbx
  replace r_c := r_c.later hbx
  replace r_j := r_j.later hbx
  replace hb := below_next hb hbx
  clear hbx
  go_wp2_with fail
  have hj := atMost_any (b) (joinL (a) (b)) A_b A_j c_b c_j w5 r_b r_j (by repeat (first | omega | exact Nat.zero_le _ | apply lens_join)) (by repeat (first | omega | exact Nat.zero_le _ | apply lens_join))
  rw [atMost_yes (fun g => by simp only [getL_join]; omega)] at hj
  refine hj.mono ?_
  rintro e w6 ⟨rfl, hbx⟩
  clear hj
  replace r_a := r_a.later hbx
  replace r_b := r_b.later hbx
  replace r_c := r_c.later hbx
  replace r_j := r_j.later hbx
  replace hb := below_next hb hbx
  clear hbx
  go_wp2_with fail
  have hj := atMost_any (a) (c) A_a A_c c_a c_c w6 r_a r_c (by repeat (first | omega | exact Nat.zero_le _ | apply lens_join)) (by repeat (first | omega | exact Nat.zero_le _ | apply lens_join))
  rw [hr0.out] at hj
  refine hj.mono ?_
  rintro e w7 ⟨rfl, hbx⟩
  clear hj
  replace r_a := r_a.later hbx
  replace r_b := r_b.later hbx
  replace r_c := r_c.later hbx
  replace r_j := r_j.later hbx
  replace hb := below_next hb hbx
  clear hbx
  go_wp2_with fail
  have hj := atMost_any (b) (c) A_b A_c c_b c_c w7 r_b r_c (by repeat (first | omega | exact Nat.zero_le _ | apply lens_join)) (by repeat (first | omega | exact Nat.zero_le _ | apply lens_join))
  rw [hq0.out] at hj
  refine hj.mono ?_
  rintro e w8 ⟨rfl, hbx⟩
  clear hj
  replace r_a := r_a.later hbx
  replace r_b := r_b.later hbx
  replace r_c := r_c.later hbx
  replace r_j := r_j.later hbx
  replace hb := below_next hb hbx
  clear hbx
  go_wp2_with fail
  have hj := atMost_any (joinL (a) (b)) (c) A_j A_c c_j c_c w8 r_j r_c (by repeat (first | omega | exact Nat.zero_le _ | apply lens_join)) (by repeat (first | omega | exact Nat.zero_le _ | apply lens_join))
  rw [join_most hr0.out hq0.out] at hj
  refine hj.mono ?_
  rintro e w9 ⟨rfl, hbx⟩
  clear hj
  replace r_a := r_a.later hbx
  replace r_b := r_b.later hbx
  replace r_c := r_c.later hbx
  replace r_j := r_j.later hbx
  replace hb := below_next hb hbx
  clear hbx
  go_wp2_with fail
  have hj := join_any (b) (a) A_b A_a c_b c_a w9 r_b r_a (by repeat (first | omega | exact Nat.zero_le _ | apply lens_join)) (by repeat (first | omega | exact Nat.zero_le _ | apply lens_join))
  refine hj.mono ?_
  rintro e w10 ⟨v, rfl, ho, hbx⟩
  clear hj
  obtain ⟨A_ba, c_ba, rfl, _, r_ba⟩ := ho.ri
  clear ho
  replace r_a := r_a.later hbx
  replace r_b := r_b.later hbx
  replace r_c := r_c.later hbx
  replace r_j := r_j.later hbx
  replace hb := below_next hb hbx
  clear hbx
  go_wp2_with fail
  have hj := same_any (joinL (a) (b)) (joinL (b) (a)) A_j A_ba c_j c_ba w10 r_j r_ba (by repeat (first | omega | exact Nat.zero_le _ | apply lens_join)) (by repeat (first | omega | exact Nat.zero_le _ | apply lens_join))
  rw [same_yes (fun g => by simp only [getL_join]; omega)] at hj
  refine hj.mono ?_
  rintro e w11 ⟨rfl, hbx⟩
  clear hj
  replace r_a := r_a.later hbx
  replace r_b := r_b.later hbx
  replace r_c := r_c.later hbx
  replace r_j := r_j.later hbx
  replace r_ba := r_ba.later hbx
  replace hb := below_next hb hbx
  clear hbx
  go_wp2_with fail
  have hj := join_any (joinL (a) (b)) (c) A_j A_c c_j c_c w11 r_j r_c (by repeat (first | omega | exact Nat.zero_le _ | apply lens_join)) (by repeat (first | omega | exact Nat.zero_le _ | apply lens_join))
  refine hj.mono ?_
  rintro e w12 ⟨v, rfl, ho, hbx⟩
  clear hj
  obtain ⟨A_jc, c_jc, rfl, _, r_jc⟩ := ho.ri
  clear ho
  replace r_a := r_a.later hbx
  replace r_b := r_b.later hbx
  replace r_c := r_c.later hbx
  replace r_j := r_j.later hbx
  replace r_ba := r_ba.later hbx
  replace hb := below_next hb hbx
  clear hbx
  go_wp2_with fail
  have hj := join_any (b) (c) A_b A_c c_b c_c w12 r_b r_c (by repeat (first | omega | exact Nat.zero_le _ | apply lens_join)) (by repeat (first | omega | exact Nat.zero_le _ | apply lens_join))
  refine hj.mono ?_
  rintro e w13 ⟨v, rfl, ho, hbx⟩
  clear hj
  obtain ⟨A_bc, c_bc, rfl, _, r_bc⟩ := ho.ri
  clear ho
  replace r_a := r_a.later hbx
  replace r_b := r_b.later hbx
  replace r_c := r_c.later hbx
  replace r_j := r_j.later hbx
  replace r_ba := r_ba.later hbx
  replace r_jc := r_jc.later hbx
  replace hb := below_next hb hbx
  clear hbx
  go_wp2_with fail
  have hj := join_any (a) (joinL (b) (c)) A_a A_bc c_a c_bc w13 r_a r_bc (by repeat (first | omega | exact Nat.zero_le _ | apply lens_join)) (by repeat (first | omega | exact Nat.zero_le _ | apply lens_join))
  refine hj.mono ?_
  rintro e w14 ⟨v, rfl, ho, hbx⟩
  clear hj
  obtain ⟨A_abc, c_abc, rfl, _, r_abc⟩ := ho.ri
  clear ho
  replace r_a := r_a.later hbx
  replace r_b := r_b.later hbx
  replace r_c := r_c.later hbx
  replace r_j := r_j.later hbx
  replace r_ba := r_ba.later hbx
  replace r_jc := r_jc.later hbx
  replace r_bc := r_bc.later hbx
  replace hb := below_next hb hbx
  clear hbx
  go_wp2_with fail
  have hj := same_any (joinL (joinL (a) (b)) (c)) (joinL (a) (joinL (b) (c))) A_jc A_abc c_jc c_abc w14 r_jc r_abc (by repeat (first | omega | exact Nat.zero_le _ | apply lens_join)) (by repeat (first | omega | exact Nat.zero_le _ | apply lens_join))
  rw [same_yes (fun g => by simp only [getL_join]; omega)] at hj
  refine hj.mono ?_
  rintro e w15 ⟨rfl, hbx⟩
  clear hj
  replace r_a := r_a.later hbx
  replace r_b := r_b.later hbx
  replace r_c := r_c.later hbx
  replace r_j := r_j.later hbx
  replace r_ba := r_ba.later hbx
  replace r_jc := r_jc.later hbx
  replace r_bc := r_bc.later hbx
  replace r_abc := r_abc.later hbx
  replace hb := below_next hb hbx
  clear hbx
  go_wp2_with fail
  have hj := join_any (a) (a) A_a A_a c_a c_a w15 r_a r_a (by repeat (first | omega | exact Nat.zero_le _ | apply lens_join)) (by repeat (first | omega | exact Nat.zero_le _ | apply lens_join))
  refine hj.mono ?_
  rintro e w16 ⟨v, rfl, ho, hbx⟩
  clear hj
  obtain ⟨A_aa, c_aa, rfl, _, r_aa⟩ := ho.ri
  clear ho
  replace r_a := r_a.later hbx
  replace r_b := r_b.later hbx
  replace r_c := r_c.later hbx
  replace r_j := r_j.later hbx
  replace r_ba := r_ba.later hbx
  replace r_jc := r_jc.later hbx
  replace r_bc := r_bc.later hbx
  replace r_abc := r_abc.later hbx
  replace hb := below_next hb hbx
  clear hbx
  go_wp2_with fail
  have hj := same_any (joinL (a) (a)) (a) A_aa A_a c_aa c_a w16 r_aa r_a (by repeat (first | omega | exact Nat.zero_le _ | apply lens_join)) (by repeat (first | omega | exact Nat.zero_le _ | apply lens_join))
  rw [same_yes (fun g => by simp only [getL_join]; omega)] at hj
  refine hj.mono ?_
  rintro e w17 ⟨rfl, hbx⟩
  clear hj
  replace r_a := r_a.later hbx
  replace r_b := r_b.later hbx
  replace r_c := r_c.later hbx
  replace r_j := r_j.later hbx
  replace r_ba := r_ba.later hbx
  replace r_jc := r_jc.later hbx
  replace r_bc := r_bc.later hbx
  replace r_abc := r_abc.later hbx
  replace r_aa := r_aa.later hbx
  replace hb := below_next hb hbx
  clear hbx
  go_wp2_with fail
  go_ret
  exact ⟨rfl, hb⟩
set_option maxHeartbeats 4000000 in
theorem order_100 (a : List Int) (b : List Int) (c : List Int) (A_a : Option Addr) (A_b : Option Addr) (A_c : Option Addr) (c_a : Nat) (c_b : Nat) (c_c : Nat) (w : World) (r_a : RI w A_a a) (r_b : RI w A_b b) (r_c : RI w A_c c) (l_a : a.length ≤ 500) (l_b : b.length ≤ 500) (l_c : c.length ≤ 500) (hp0 : Hid (atMost a b = true)) (hq0 : Hid (atMost b c = false)) (hr0 : Hid (atMost a c = false)) :
    Calls Tryd.prog 4 #[.slice A_a a.length c_a, .slice A_b b.length c_b, .slice A_c c.length c_c] w (Ret w (.bool true)) := by
  have hb : Below w.heap.size w w := Below.refl _ _
  go_enter Tryd.func4, Tryd.ntmps4
  go_wp2_with fail
  refine (alive_any w).mono ?_
  rintro e w1 ⟨rfl, hbx⟩
  replace r_a := r_a.later hbx
  replace r_b := r_b.later hbx
  replace r_c := r_c.later hbx
  replace hb := below_next hb hbx
  clear hbx
  go_wp2_with fail
  have hj := join_any (a) (b) A_a A_b c_a c_b w1 r_a r_b (by repeat (first | omega | exact Nat.zero_le _ | apply lens_join)) (by repeat (first | omega | exact Nat.zero_le _ | apply lens_join))
  refine hj.mono ?_
  rintro e w2 ⟨v, rfl, ho, hbx⟩
  clear hj
  obtain ⟨A_j, c_j, rfl, _, r_j⟩ := ho.ri
  clear ho
  replace r_a := r_a.later hbx
  replace r_b := r_b.later hbx
  replace r_c := r_c.later hbx
  replace hb := below_next hb hbx
  clear hbx
  go_wp2_with fail
  have hj := atMost_any (a) (a) A_a A_a c_a c_a w2 r_a r_a (by repeat (first | omega | exact Nat.zero_le _ | apply lens_join)) (by repeat (first | omega | exact Nat.zero_le _ | apply lens_join))
  rw [atMost_yes (fun g => Int.le_refl _)] at hj
  refine hj.mono ?_
  rintro e w3 ⟨rfl, hbx⟩
  clear hj
  replace r_a := r_a.later hbx
  replace r_b := r_b.later hbx
  replace r_c := r_c.later hbx
  replace r_j := r_j.later hbx
  replace hb := below_next hb hbx
  clear hbx
  go_wp2_with fail
  have hj := atMost_any (a) (b) A_a A_b c_a c_b w3 r_a r_b (by repeat (first | omega | exact Nat.zero_le _ | apply lens_join)) (by repeat (first | omega | exact Nat.zero_le _ | apply lens_join))
  rw [hp0.out] at hj
  refine hj.mono ?_
  rintro e w4 ⟨rfl, hbx⟩
  clear hj
  replace r_a := r_a.later hbx
  replace r_b := r_b.later hbx
  replace r_c := r_c.later hbx
  replace r_j := r_j.later hbx
  replace hb := below_next hb hbx
  clear hbx
  go_wp2_with fail
  have hj := atMost_any (b) (c) A_b A_c c_b c_c w4 r_b r_c (by repeat (first | omega | exact Nat.zero_le _ | apply lens_join)) (by repeat (first | omega | exact Nat.zero_le _ | apply lens_join))
  rw [hq0.out] at hj
  refine hj.mono ?_
  rintro e w5 ⟨rfl, hbx⟩
  clear hj
  replace r_a := r_a.later hbx
  replace r_b := r_b.later hbx
  replace r_c := r_c.later hbx
  replace r_j := r_j.later hbx
  replace hb := below_next hb hbx
  clear hbx
  go_wp2_with fail
  have hj := atMost_any (a) (joinL (a) (b)) A_a A_j c_a c_j w5 r_a r_j (by repeat (first | omega | exact Nat.zero_le _ | apply lens_join)) (by repeat (first | omega | exact Nat.zero_le _ | apply lens_join))
  rw [atMost_yes (fun g => by simp only [getL_join]; omega)] at hj
  refine hj.mono ?_
  rintro e w6 ⟨rfl, hbx⟩
  clear hj
  replace r_a := r_a.later hbx
  replace r_b := r_b.later hbx
  replace r_c := r_c.later hbx
  replace r_j := r_j.later hbx
  replace hb := below_next hb hbx
  clear hbx
  go_wp2_with fail
  have hj := atMost_any (b) (joinL (a) (b)) A_b A_j c_b c_j w6 r_b r_j (by repeat (first | omega | exact Nat.zero_le _ | apply lens_join)) (by repeat (first | omega | exact Nat.zero_le _ | apply lens_join))
  rw [atMost_yes (fun g => by simp only [getL_join]; omega)] at hj
  refine hj.mono ?_
  rintro e w7 ⟨rfl, hbx⟩
  clear hj
  replace r_a := r_a.later hbx
  replace r_b := r_b.later hbx
  replace r_c := r_c.later hbx
  replace r_j := r_j.later hbx
  replace hb := below_next hb hbx
  clear hbx
  go_wp2_with fail
  have hj := atMost_any (a) (c) A_a A_c c_a c_c w7 r_a r_c (by repeat (first | omega | exact Nat.zero_le _ | apply lens_join)) (by repeat (first | omega | exact Nat.zero_le _ | apply lens_join))
  rw [hr0.out] at hj
  refine hj.mono ?_
  rintro e w8 ⟨rfl, hbx⟩
  clear hj
  replace r_a := r_a.later hbx
  replace r_b := r_b.later hbx
  replace r_c := r_c.later hbx
  replace r_j := r_j.later hbx
  replace hb := below_next hb hbx
  clear hbx
  go_wp2_with fail
  have hj := join_any (b) (a) A_b A_a c_b c_a w8 r_b r_a (by repeat (first | omega | exact Nat.zero_le _ | apply lens_join)) (by repeat (first | omega | exact Nat.zero_le _ | apply lens_join))
  refine hj.mono ?_
  rintro e w9 ⟨v, rfl, ho, hbx⟩
  clear hj
  obtain ⟨A_ba, c_ba, rfl, _, r_ba⟩ := ho.ri
  clear ho
  replace r_a := r_a.later hbx
  replace r_b := r_b.later hbx
  replace r_c := r_c.later hbx
  replace r_j := r_j.later hbx
  replace hb := below_next hb hbx
  clear hbx
  go_wp2_with fail
  have hj := same_any (joinL (a) (b)) (joinL (b) (a)) A_j A_ba c_j c_ba w9 r_j r_ba (by repeat (first | omega | exact Nat.zero_le _ | apply lens_join)) (by repeat (first | omega | exact Nat.zero_le _ | apply lens_join))
  rw [same_yes (fun g => by simp only [getL_join]; omega)] at hj
  refine hj.mono ?_
  rintro e w10 ⟨rfl, hbx⟩
  clear hj
  replace r_a := r_a.later hbx
  replace r_b := r_b.later hbx
  replace r_c := r_c.later hbx
  replace r_j := r_j.later hbx
  replace r_ba := r_ba.later hbx
  replace hb := below_next hb hbx
  clear hbx
  go_wp2_with fail
  have hj := join_any (joinL (a) (b)) (c) A_j A_c c_j c_c w10 r_j r_c (by repeat (first | omega | exact Nat.zero_le _ | apply lens_join)) (by repeat (first | omega | exact Nat.zero_le _ | apply lens_join))
  refine hj.mono ?_
  rintro e w11 ⟨v, rfl, ho, hbx⟩
  clear hj
  obtain ⟨A_jc, c_jc, rfl, _, r_jc⟩ := ho.ri
  clear ho
  replace r_a := r_a.later hbx
  replace r_b := r_b.later hbx
  replace r_c := r_c.later hbx
  replace r_j := r_j.later hbx
  replace r_ba := r_ba.later hbx
  replace hb := below_next hb hbx
  clear hbx
  go_wp2_with fail
  have hj := join_any (b) (c) A_b A_c c_b c_c w11 r_b r_c (by repeat (first | omega | exact Nat.zero_le _ | apply lens_join)) (by repeat (first | omega | exact Nat.zero_le _ | apply lens_join))
  refine hj.mono ?_
  rintro e w12 ⟨v, rfl, ho, hbx⟩
  clear hj
  obtain ⟨A_bc, c_bc, rfl, _, r_bc⟩ := ho.ri
  clear ho
  replace r_a := r_a.later hbx
  replace r_b := r_b.later hbx
  replace r_c := r_c.later hbx
  replace r_j := r_j.later hbx
  replace r_ba := r_ba.later hbx
  replace r_jc := r_jc.later hbx
  replace hb := below_next hb hbx
  clear hbx
  go_wp2_with fail
  have hj := join_any (a) (joinL (b) (c)) A_a A_bc c_a c_bc w12 r_a r_bc (by repeat (first | omega | exact Nat.zero_le _ | apply lens_join)) (by repeat (first | omega | exact Nat.zero_le _ | apply lens_join))
  refine hj.mono ?_
  rintro e w13 ⟨v, rfl, ho, hbx⟩
  clear hj
  obtain ⟨A_abc, c_abc, rfl, _, r_abc⟩ := ho.ri
  clear ho
  replace r_a := r_a.later hbx
  replace r_b := r_b.later hbx
  replace r_c := r_c.later hbx
  replace r_j := r_j.later hbx
  replace r_ba := r_ba.later hbx
  replace r_jc := r_jc.later hbx
  replace r_bc := r_bc.later hbx
  replace hb := below_next hb hbx
  clear hbx
  go_wp2_with fail
  have hj := same_any (joinL (joinL (a) (b)) (c)) (joinL (a) (joinL (b) (c))) A_jc A_abc c_jc c_abc w13 r_jc r_abc (by repeat (first | omega | exact Nat.zero_le _ | apply lens_join)) (by repeat (first | omega | exact Nat.zero_le _ | apply lens_join))
  rw [same_yes (fun g => by simp only [getL_join]; omega)] at hj
  refine hj.mono ?_
  rintro e w14 ⟨rfl, hbx⟩
  clear hj
  replace r_a := r_a.later hbx
  replace r_b := r_b.later hbx
  replace r_c := r_c.later hbx
  replace r_j := r_j.later hbx
  replace r_ba := r_ba.later hbx
  replace r_jc := r_jc.later hbx
  replace r_bc := r_bc.later hbx
  replace r_abc := r_abc.later hbx
  replace hb := below_next hb hbx
  clear hbx
  go_wp2_with fail
  have hj := join_any (a) (a) A_a A_a c_a c_a w14 r_a r_a (by repeat (first | omega | exact Nat.zero_le _ | apply lens_join)) (by repeat (first | omega | exact Nat.zero_le _ | apply lens_join))
  refine hj.mono ?_
  rintro e w15 ⟨v, rfl, ho, hbx⟩
  clear hj
  obtain ⟨A_aa, c_aa, rfl, _, r_aa⟩ := ho.ri
  clear ho
  replace r_a := r_a.later hbx
  replace r_b := r_b.later hbx
  replace r_c := r_c.later hbx
  replace r_j := r_j.later hbx
  replace r_ba := r_ba.later hbx
  replace r_jc := r_jc.later hbx
  replace r_bc := r_bc.later hbx
  replace r_abc := r_abc.later hbx
  replace hb := below_next hb hbx
  clear hbx
  go_wp2_with fail
  have hj := same_any (joinL (a) (a)) (a) A_aa A_a c_aa c_a w15 r_aa r_a (by repeat (first | omega | exact Nat.zero_le _ | apply lens_join)) (by repeat (first | omega | exact Nat.zero_le _ | apply lens_join))
  rw [same_yes (fun g => by simp only [getL_join]; omega)] at hj
  refine hj.mono ?_
  rintro e w16 ⟨rfl, hbx⟩
  clear hj
  replace r_a := r_a.later hbx
  replace r_b := r_b.later hbx
  replace r_c := r_c.later hbx
  replace r_j := r_j.later hbx
  replace r_ba := r_ba.later hbx
  replace r_jc := r_jc.later hbx
  replace r_bc := r_bc.later hbx
  replace r_abc := r_abc.later hbx
  replace r_aa := r_aa.later hbx
  replace hb := below_next hb hbx
  clear hbx
  go_wp2_with fail
  go_ret
  exact ⟨rfl, hb⟩
set_option maxHeartbeats 4000000 in
theorem order_101 (a : List Int) (b : List Int) (c : List Int) (A_a : Option Addr) (A_b : Option Addr) (A_c : Option Addr) (c_a : Nat) (c_b : Nat) (c_c : Nat) (w : World) (r_a : RI w A_a a) (r_b : RI w A_b b) (r_c : RI w A_c c) (l_a : a.length ≤ 500) (l_b : b.length ≤ 500) (l_c : c.length ≤ 500) (hp0 : Hid (atMost a b = true)) (hq0 : Hid (atMost b c = false)) (hr0 : Hid (atMost a c = true)) :
    Calls Tryd.prog 4 #[.slice A_a a.length c_a, .slice A_b b.length c_b, .slice A_c c.length c_c] w (Ret w (.bool true)) := by
  have hb : Below w.heap.size w w := Below.refl _ _
  go_enter Tryd.func4, Tryd.ntmps4
  go_wp2_with fail
  refine (alive_any w).mono ?_
  rintro e w1 ⟨rfl, hbx⟩
  replace r_a := r_a.later hbx
  replace r_b := r_b.later hbx
  replace r_c := r_c.later hbx
  replace hb := below_next hb hbx
  clear hbx
  go_wp2_with fail
  have hj := join_any (a) (b) A_a A_b c_a c_b w1 r_a r_b (by repeat (first | omega | exact Nat.zero_le _ | apply lens_join)) (by repeat (first | omega | exact Nat.zero_le _ | apply lens_join))
  refine hj.mono ?_
  rintro e w2 ⟨v, rfl, ho, hbx⟩
  clear hj
  obtain ⟨A_j, c_j, rfl, _, r_j⟩ := ho.ri
  clear ho
  replace r_a := r_a.later hbx
  replace r_b := r_b.later hbx
  replace r_c := r_c.later hbx
  replace hb := below_next hb hbx
  clear hbx
  go_wp2_with fail
  have hj := atMost_any (a) (a) A_a A_a c_a c_a w2 r_a r_a (by repeat (first | omega | exact Nat.zero_le _ | apply lens_join)) (by repeat (first | omega | exact Nat.zero_le _ | apply lens_join))
  rw [atMost_yes (fun g => Int.le_refl _)] at hj
  refine hj.mono ?_
  rintro e w3 ⟨rfl, hbx⟩
  clear hj
  replace r_a := r_a.later hbx
  replace r_b := r_b.later hbx
  replace r_c := r_c.later hbx
  replace r_j := r_j.later hbx
  replace hb := below_next hb hbx
  clear hbx
  go_wp2_with fail
  have hj := atMost_any (a) (b) A_a A_b c_a c_b w3 r_a r_b (by repeat (first | omega | exact Nat.zero_le _ | apply lens_join)) (by repeat (first | omega | exact Nat.zero_le _ | apply lens_join))
  rw [hp0.out] at hj
  refine hj.mono ?_
  rintro e w4 ⟨rfl, hbx⟩
  clear hj
  replace r_a := r_a.later hbx
  replace r_b := r_b.later hbx
  replace r_c := r_c.later hbx
  replace r_j := r_j.later hbx
  replace hb := below_next hb hbx
  clear hbx
  go_wp2_with fail
  have hj := atMost_any (b) (c) A_b A_c c_b c_c w4 r_b r_c (by repeat (first | omega | exact Nat.zero_le _ | apply lens_join)) (by repeat (first | omega | exact Nat.zero_le _ | apply lens_join))
  rw [hq0.out] at hj
  refine hj.mono ?_
  rintro e w5 ⟨rfl, hbx⟩
  clear hj
  replace r_a := r_a.later hbx
  replace r_b := r_b.later hbx
  replace r_c := r_c.later hbx
  replace r_j := r_j.later hbx
  replace hb := below_next hb hbx
  clear hbx
  go_wp2_with fail
  have hj := atMost_any (a) (joinL (a) (b)) A_a A_j c_a c_j w5 r_a r_j (by repeat (first | omega | exact Nat.zero_le _ | apply lens_join)) (by repeat (first | omega | exact Nat.zero_le _ | apply lens_join))
  rw [atMost_yes (fun g => by simp only [getL_join]; omega)] at hj
  refine hj.mono ?_
  rintro e w6 ⟨rfl, hbx⟩
  clear hj
  replace r_a := r_a.later hbx
  replace r_b := r_b.later hbx
  replace r_c := r_c.later hbx
  replace r_j := r_j.later hbx
  replace hb := below_next hb hbx
  clear hbx
  go_wp2_with fail
  have hj := atMost_any (b) (joinL (a) (b)) A_b A_j c_b c_j w6 r_b r_j (by repeat (first | omega | exact Nat.zero_le _ | apply lens_join)) (by repeat (first | omega | exact Nat.zero_le _ | apply lens_join))
  rw [atMost_yes (fun g => by simp only [getL_join]; omega)] at hj
  refine hj.mono ?_
  rintro e w7 ⟨rfl, hbx⟩
  clear hj
  replace r_a := r_a.later hbx
  replace r_b := r_b.later hbx
  replace r_c := r_c.later hbx
  replace r_j := r_j.later hbx
  replace hb := below_next hb hbx
  clear hbx
  go_wp2_with fail
  have hj := atMost_any (a) (c) A_a A_c c_a c_c w7 r_a r_c (by repeat (first | omega | exact Nat.zero_le _ | apply lens_join)) (by repeat (first | omega | exact Nat.zero_le _ | apply lens_join))
  rw [hr0.out] at hj
  refine hj.mono ?_
  rintro e w8 ⟨rfl, hbx⟩
  clear hj
  replace r_a := r_a.later hbx
  replace r_b := r_b.later hbx
  replace r_c := r_c.later hbx
  replace r_j := r_j.later hbx
  replace hb := below_next hb hbx
  clear hbx
  go_wp2_with fail
  have hj := atMost_any (b) (c) A_b A_c c_b c_c w8 r_b r_c (by repeat (first | omega | exact Nat.zero_le _ | apply lens_join)) (by repeat (first | omega | exact Nat.zero_le _ | apply lens_join))
  rw [hq0.out] at hj
  refine hj.mono ?_
  rintro e w9 ⟨rfl, hbx⟩
  clear hj
  replace r_a := r_a.later hbx
  replace r_b := r_b.later hbx
  replace r_c := r_c.later hbx
  replace r_j := r_j.later hbx
  replace hb := below_next hb hbx
  clear hbx
  go_wp2_with fail
  have hj := atMost_any (joinL (a) (b)) (c) A_j A_c c_j c_c w9 r_j r_c (by repeat (first | omega | exact Nat.zero_le _ | apply lens_join)) (by repeat (first | omega | exact Nat.zero_le _ | apply lens_join))
  rw [join_most hr0.out hq0.out] at hj
  refine hj.mono ?_
  rintro e w10 ⟨rfl, hbx⟩
  clear hj
  replace r_a := r_a.later hbx
  replace r_b := r_b.later hbx
  replace r_c := r_c.later hbx
  replace r_j := r_j.later hbx
  replace hb := below_next hb hbx
  clear hbx
  go_wp2_with fail
  have hj := join_any (b) (a) A_b A_a c_b c_a w10 r_b r_a (by repeat (first | omega | exact Nat.zero_le _ | apply lens_join)) (by repeat (first | omega | exact Nat.zero_le _ | apply lens_join))
  refine hj.mono ?_
  rintro e w11 ⟨v, rfl, ho, hbx⟩
  clear hj
  obtain ⟨A_ba, c_ba, rfl, _, r_ba⟩ := ho.ri
  clear ho
  replace r_a := r_a.later hbx
  replace r_b := r_b.later hbx
  replace r_c := r_c.later hbx
  replace r_j := r_j.later hbx
  replace hb := below_next hb hbx
  clear hbx
  go_wp2_with fail
  have hj := same_any (joinL (a) (b)) (joinL (b) (a)) A_j A_ba c_j c_ba w11 r_j r_ba (by repeat (first | omega | exact Nat.zero_le _ | apply lens_join)) (by repeat (first | omega | exact Nat.zero_le _ | apply lens_join))
  rw [same_yes (fun g => by simp only [getL_join]; omega)] at hj
  refine hj.mono ?_
  rintro e w12 ⟨rfl, hbx⟩
  clear hj
  replace r_a := r_a.later hbx
  replace r_b := r_b.later hbx
  replace r_c := r_c.later hbx
  replace r_j := r_j.later hbx
  replace r_ba := r_ba.later hbx
  replace hb := below_next hb hbx
  clear hbx
  go_wp2_with fail
  have hj := join_any (joinL (a) (b)) (c) A_j A_c c_j c_c w12 r_j r_c (by repeat (first | omega | exact Nat.zero_le _ | apply lens_join)) (by repeat (first | omega | exact Nat.zero_le _ | apply lens_join))
  refine hj.mono ?_
  rintro e w13 ⟨v, rfl, ho, hbx⟩
  clear hj
  obtain ⟨A_jc, c_jc, rfl, _, r_jc⟩ := ho.ri
  clear ho
  replace r_a := r_a.later hbx
  replace r_b := r_b.later hbx
  replace r_c := r_c.later hbx
  replace r_j := r_j.later hbx
  replace r_ba := r_ba.later hbx
  replace hb := below_next hb hbx
  clear hbx
  go_wp2_with fail
  have hj := join_any (b) (c) A_b A_c c_b c_c w13 r_b r_c (by repeat (first | omega | exact Nat.zero_le _ | apply lens_join)) (by repeat (first | omega | exact Nat.zero_le _ | apply lens_join))
  refine hj.mono ?_
  rintro e w14 ⟨v, rfl, ho, hbx⟩
  clear hj
  obtain ⟨A_bc, c_bc, rfl, _, r_bc⟩ := ho.ri
  clear ho
  replace r_a := r_a.later hbx
  replace r_b := r_b.later hbx
  replace r_c := r_c.later hbx
  replace r_j := r_j.later hbx
  replace r_ba := r_ba.later hbx
  replace r_jc := r_jc.later hbx
  replace hb := below_next hb hbx
  clear hbx
  go_wp2_with fail
  have hj := join_any (a) (joinL (b) (c)) A_a A_bc c_a c_bc w14 r_a r_bc (by repeat (first | omega | exact Nat.zero_le _ | apply lens_join)) (by repeat (first | omega | exact Nat.zero_le _ | apply lens_join))
  refine hj.mono ?_
  rintro e w15 ⟨v, rfl, ho, hbx⟩
  clear hj
  obtain ⟨A_abc, c_abc, rfl, _, r_abc⟩ := ho.ri
  clear ho
  replace r_a := r_a.later hbx
  replace r_b := r_b.later hbx
  replace r_c := r_c.later hbx
  replace r_j := r_j.later hbx
  replace r_ba := r_ba.later hbx
  replace r_jc := r_jc.later hbx
  replace r_bc := r_bc.later hbx
  replace hb := below_next hb hbx
  clear hbx
  go_wp2_with fail
  have hj := same_any (joinL (joinL (a) (b)) (c)) (joinL (a) (joinL (b) (c))) A_jc A_abc c_jc c_abc w15 r_jc r_abc (by repeat (first | omega | exact Nat.zero_le _ | apply lens_join)) (by repeat (first | omega | exact Nat.zero_le _ | apply lens_join))
  rw [same_yes (fun g => by simp only [getL_join]; omega)] at hj
  refine hj.mono ?_
  rintro e w16 ⟨rfl, hbx⟩
  clear hj
  replace r_a := r_a.later hbx
  replace r_b := r_b.later hbx
  replace r_c := r_c.later hbx
  replace r_j := r_j.later hbx
  replace r_ba := r_ba.later hbx
  replace r_jc := r_jc.later hbx
  replace r_bc := r_bc.later hbx
  replace r_abc := r_abc.later hbx
  replace hb := below_next hb hbx
  clear hbx
  go_wp2_with fail
  have hj := join_any (a) (a) A_a A_a c_a c_a w16 r_a r_a (by repeat (first | omega | exact Nat.zero_le _ | apply lens_join)) (by repeat (first | omega | exact Nat.zero_le _ | apply lens_join))
  refine hj.mono ?_
  rintro e w17 ⟨v, rfl, ho, hbx⟩
  clear hj
  obtain ⟨A_aa, c_aa, rfl, _, r_aa⟩ := ho.ri
  clear ho
  replace r_a := r_a.later hbx
  replace r_b := r_b.later hbx
  replace r_c := r_c.later hbx
  replace r_j := r_j.later hbx
  replace r_ba := r_ba.later hbx
  replace r_jc := r_jc.later hbx
  replace r_bc := r_bc.later hbx
  replace r_abc := r_abc.later hbx
  replace hb := below_next hb hbx
  clear hbx
  go_wp2_with fail
  have hj := same_any (joinL (a) (a)) (a) A_aa A_a c_aa c_a w17 r_aa r_a (by repeat (first | omega | exact Nat.zero_le _ | apply lens_join)) (by repeat (first | omega | exact Nat.zero_le _ | apply lens_join))
  rw [same_yes (fun g => by simp only [getL_join]; omega)] at hj
  refine hj.mono ?_
  rintro e w18 ⟨rfl, hbx⟩
  clear hj
  replace r_a := r_a.later hbx
  replace r_b := r_b.later hbx
  replace r_c := r_c.later hbx
  replace r_j := r_j.later hbx
  replace r_ba := r_ba.later hbx
  replace r_jc := r_jc.later hbx
  replace r_bc := r_bc.later hbx
  replace r_abc := r_abc.later hbx
  replace r_aa := r_aa.later hbx
  replace hb := below_next hb hbx
  clear hbx
  go_wp2_with fail
  go_ret
  exact ⟨rfl, hb⟩
set_option maxHeartbeats 4000000 in
theorem order_111 (a : List Int) (b : List Int) (c : List Int) (A_a : Option Addr) (A_b : Option Addr) (A_c : Option Addr) (c_a : Nat) (c_b : Nat) (c_c : Nat) (w : World) (r_a : RI w A_a a) (r_b : RI w A_b b) (r_c : RI w A_c c) (l_a : a.length ≤ 500) (l_b : b.length ≤ 500) (l_c : c.length ≤ 500) (hp0 : Hid (atMost a b = true)) (hq0 : Hid (atMost b c = true)) (hr0 : Hid (atMost a c = true)) :
    Calls Tryd.prog 4 #[.slice A_a a.length c_a, .slice A_b b.length c_b, .slice A_c c.length c_c] w (Ret w (.bool true)) := by
  have hb : Below w.heap.size w w := Below.refl _ _
  go_enter Tryd.func4, Tryd.ntmps4
  go_wp2_with fail
  refine (alive_any w).mono ?_
  rintro e w1 ⟨rfl, hbx⟩
  replace r_a := r_a.later hbx
  replace r_b := r_b.later hbx
  replace r_c := r_c.later hbx
  replace hb := below_next hb hbx
  clear hbx
  go_wp2_with fail
  have hj := join_any (a) (b) A_a A_b c_a c_b w1 r_a r_b (by repeat (first | omega | exact Nat.zero_le _ | apply lens_join)) (by repeat (first | omega | exact Nat.zero_le _ | apply lens_join))
  refine hj.mono ?_
  rintro e w2 ⟨v, rfl, ho, hbx⟩
  clear hj
  obtain ⟨A_j, c_j, rfl, _, r_j⟩ := ho.ri
  clear ho
  replace r_a := r_a.later hbx
  replace r_b := r_b.later hbx
  replace r_c := r_c.later hbx
  replace hb := below_next hb hbx
  clear hbx
  go_wp2_with fail
  have hj := atMost_any (a) (a) A_a A_a c_a c_a w2 r_a r_a (by repeat (first | omega | exact Nat.zero_le _ | apply lens_join)) (by repeat (first | omega | exact Nat.zero_le _ | apply lens_join))
  rw [atMost_yes (fun g => Int.le_refl _)] at hj
  refine hj.mono ?_
  rintro e w3 ⟨rfl, hbx⟩
  clear hj
  replace r_a := r_a.later hbx
  replace r_b := r_b.later hbx
  replace r_c := r_c.later hbx
  replace r_j := r_j.later hbx
  replace hb := below_next hb hbx
  clear hbx
  go_wp2_with fail
  have hj := atMost_any (a) (b) A_a A_b c_a c_b w3 r_a r_b (by repeat (first | omega | exact Nat.zero_le _ | apply lens_join)) (by repeat (first | omega | exact Nat.zero_le _ | apply lens_join))
  rw [hp0.out] at hj
  refine hj.mono ?_
  rintro e w4 ⟨rfl, hbx⟩
  clear hj
  replace r_a := r_a.later hbx
  replace r_b := r_b.later hbx
  replace r_c := r_c.later hbx
  replace r_j := r_j.later hbx
  replace hb := below_next hb hbx
  clear hbx
  go_wp2_with fail
  have hj := atMost_any (b) (c) A_b A_c c_b c_c w4 r_b r_c (by repeat (first | omega | exact Nat.zero_le _ | apply lens_join)) (by repeat (first | omega | exact Nat.zero_le _ | apply lens_join))
  rw [hq0.out] at hj
  refine hj.mono ?_
  rintro e w5 ⟨rfl, hbx⟩
  clear hj
  replace r_a := r_a.later hbx
  replace r_b := r_b.later hbx
  replace r_c := r_c.later hbx
  replace r_j := r_j.later hbx
  replace hb := below_next hb hbx
  clear hbx
  go_wp2_with fail
  have hj := atMost_any (a) (c) A_a A_c c_a c_c w5 r_a r_c (by repeat (first | omega | exact Nat.zero_le _ | apply lens_join)) (by repeat (first | omega | exact Nat.zero_le _ | apply lens_join))
  rw [hr0.out] at hj
  refine hj.mono ?_
  rintro e w6 ⟨rfl, hbx⟩
  clear hj
  replace r_a := r_a.later hbx
  replace r_b := r_b.later hbx
  replace r_c := r_c.later hbx
  replace r_j := r_j.later hbx
  replace hb := below_next hb hbx
  clear hbx
  go_wp2_with fail
  have hj := atMost_any (a) (joinL (a) (b)) A_a A_j c_a c_j w6 r_a r_j (by repeat (first | omega | exact Nat.zero_le _ | apply lens_join)) (by repeat (first | omega | exact Nat.zero_le _ | apply lens_join))
  rw [atMost_yes (fun g => by simp only [getL_join]; omega)] at hj
  refine hj.mono ?_
  rintro e w7 ⟨rfl, hbx⟩
  clear hj
  replace r_a := r_a.later hbx
  replace r_b := r_b.later hbx
  replace r_c := r_c.later hbx
  replace r_j := r_j.later hbx
  replace hb := below_next hb hbx
  clear hbx
  go_wp2_with fail
  have hj := atMost_any (b) (joinL (a) (b)) A_b A_j c_b c_j w7 r_b r_j (by repeat (first | omega | exact Nat.zero_le _ | apply lens_join)) (by repeat (first | omega | exact Nat.zero_le _ | apply lens_join))
  rw [atMost_yes (fun g => by simp only [getL_join]; omega)] at hj
  refine hj.mono ?_
  rintro e w8 ⟨rfl, hbx⟩
  clear hj
  replace r_a := r_a.later hbx
  replace r_b := r_b.later hbx
  replace r_c := r_c.later hbx
  replace r_j := r_j.later hbx
  replace hb := below_next hb hbx
  clear hbx
  go_wp2_with fail
  have hj := atMost_any (a) (c) A_a A_c c_a c_c w8 r_a r_c (by repeat (first | omega | exact Nat.zero_le _ | apply lens_join)) (by repeat (first | omega | exact Nat.zero_le _ | apply lens_join))
  rw [hr0.out] at hj
  refine hj.mono ?_
  rintro e w9 ⟨rfl, hbx⟩
  clear hj
  replace r_a := r_a.later hbx
  replace r_b := r_b.later hbx
  replace r_c := r_c.later hbx
  replace r_j := r_j.later hbx
  replace hb := below_next hb hbx
  clear hbx
  go_wp2_with fail
  have hj := atMost_any (b) (c) A_b A_c c_b c_c w9 r_b r_c (by repeat (first | omega | exact Nat.zero_le _ | apply lens_join)) (by repeat (first | omega | exact Nat.zero_le _ | apply lens_join))
  rw [hq0.out] at hj
  refine hj.mono ?_
  rintro e w10 ⟨rfl, hbx⟩
  clear hj
  replace r_a := r_a.later hbx
  replace r_b := r_b.later hbx
  replace r_c := r_c.later hbx
  replace r_j := r_j.later hbx
  replace hb := below_next hb hbx
  clear hbx
  go_wp2_with fail
  have hj := atMost_any (joinL (a) (b)) (c) A_j A_c c_j c_c w10 r_j r_c (by repeat (first | omega | exact Nat.zero_le _ | apply lens_join)) (by repeat (first | omega | exact Nat.zero_le _ | apply lens_join))
  rw [join_most hr0.out hq0.out] at hj
  refine hj.mono ?_
  rintro e w11 ⟨rfl, hbx⟩
  clear hj
  replace r_a := r_a.later hbx
  replace r_b := r_b.later hbx
  replace r_c := r_c.later hbx
  replace r_j := r_j.later hbx
  replace hb := below_next hb hbx
  clear hbx
  go_wp2_with fail
  have hj := join_any (b) (a) A_b A_a c_b c_a w11 r_b r_a (by repeat (first | omega | exact Nat.zero_le _ | apply lens_join)) (by repeat (first | omega | exact Nat.zero_le _ | apply lens_join))
  refine hj.mono ?_
  rintro e w12 ⟨v, rfl, ho, hbx⟩
  clear hj
  obtain ⟨A_ba, c_ba, rfl, _, r_ba⟩ := ho.ri
  clear ho
  replace r_a := r_a.later hbx
  replace r_b := r_b.later hbx
  replace r_c := r_c.later hbx
  replace r_j := r_j.later hbx
  replace hb := below_next hb hbx
  clear hbx
  go_wp2_with fail
  have hj := same_any (joinL (a) (b)) (joinL (b) (a)) A_j A_ba c_j c_ba w12 r_j r_ba (by repeat (first | omega | exact Nat.zero_le _ | apply lens_join)) (by repeat (first | omega | exact Nat.zero_le _ | apply lens_join))
  rw [same_yes (fun g => by simp only [getL_join]; omega)] at hj
  refine hj.mono ?_
  rintro e w13 ⟨rfl, hbx⟩
  clear hj
  replace r_a := r_a.later hbx
  replace r_b := r_b.later hbx
  replace r_c := r_c.later hbx
  replace r_j := r_j.later hbx
  replace r_ba := r_ba.later hbx
  replace hb := below_next hb hbx
  clear hbx
  go_wp2_with fail
  have hj := join_any (joinL (a) (b)) (c) A_j A_c c_j c_c w13 r_j r_c (by repeat (first | omega | exact Nat.zero_le _ | apply lens_join)) (by repeat (first | omega | exact Nat.zero_le _ | apply lens_join))
  refine hj.mono ?_
  rintro e w14 ⟨v, rfl, ho, hbx⟩
  clear hj
  obtain ⟨A_jc, c_jc, rfl, _, r_jc⟩ := ho.ri
  clear ho
  replace r_a := r_a.later hbx
  replace r_b := r_b.later hbx
  replace r_c := r_c.later hbx
  replace r_j := r_j.later hbx
  replace r_ba := r_ba.later hbx
  replace hb := below_next hb hbx
  clear hbx
  go_wp2_with fail
  have hj := join_any (b) (c) A_b A_c c_b c_c w14 r_b r_c (by repeat (first | omega | exact Nat.zero_le _ | apply lens_join)) (by repeat (first | omega | exact Nat.zero_le _ | apply lens_join))
  refine hj.mono ?_
  rintro e w15 ⟨v, rfl, ho, hbx⟩
  clear hj
  obtain ⟨A_bc, c_bc, rfl, _, r_bc⟩ := ho.ri
  clear ho
  replace r_a := r_a.later hbx
  replace r_b := r_b.later hbx
  replace r_c := r_c.later hbx
  replace r_j := r_j.later hbx
  replace r_ba := r_ba.later hbx
  replace r_jc := r_jc.later hbx
  replace hb := below_next hb hbx
  clear hbx
  go_wp2_with fail
  have hj := join_any (a) (joinL (b) (c)) A_a A_bc c_a c_bc w15 r_a r_bc (by repeat (first | omega | exact Nat.zero_le _ | apply lens_join)) (by repeat (first | omega | exact Nat.zero_le _ | apply lens_join))
  refine hj.mono ?_
  rintro e w16 ⟨v, rfl, ho, hbx⟩
  clear hj
  obtain ⟨A_abc, c_abc, rfl, _, r_abc⟩ := ho.ri
  clear ho
  replace r_a := r_a.later hbx
  replace r_b := r_b.later hbx
  replace r_c := r_c.later hbx
  replace r_j := r_j.later hbx
  replace r_ba := r_ba.later hbx
  replace r_jc := r_jc.later hbx
  replace r_bc := r_bc.later hbx
  replace hb := below_next hb hbx
  clear hbx
  go_wp2_with fail
  have hj := same_any (joinL (joinL (a) (b)) (c)) (joinL (a) (joinL (b) (c))) A_jc A_abc c_jc c_abc w16 r_jc r_abc (by repeat (first | omega | exact Nat.zero_le _ | apply lens_join)) (by repeat (first | omega | exact Nat.zero_le _ | apply lens_join))
  rw [same_yes (fun g => by simp only [getL_join]; omega)] at hj
  refine hj.mono ?_
  rintro e w17 ⟨rfl, hbx⟩
  clear hj
  replace r_a := r_a.later hbx
  replace r_b := r_b.later hbx
  replace r_c := r_c.later hbx
  replace r_j := r_j.later hbx
  replace r_ba := r_ba.later hbx
  replace r_jc := r_jc.later hbx
  replace r_bc := r_bc.later hbx
  replace r_abc := r_abc.later hbx
  replace hb := below_next hb hbx
  clear hbx
  go_wp2_with fail
  have hj := join_any (a) (a) A_a A_a c_a c_a w17 r_a r_a (by repeat (first | omega | exact Nat.zero_le _ | apply lens_join)) (by repeat (first | omega | exact Nat.zero_le _ | apply lens_join))
  refine hj.mono ?_
  rintro e w18 ⟨v, rfl, ho, hbx⟩
  clear hj
  obtain ⟨A_aa, c_aa, rfl, _, r_aa⟩ := ho.ri
  clear ho
  replace r_a := r_a.later hbx
  replace r_b := r_b.later hbx
  replace r_c := r_c.later hbx
  replace r_j := r_j.later hbx
  replace r_ba := r_ba.later hbx
  replace r_jc := r_jc.later hbx
  replace r_bc := r_bc.later hbx
  replace r_abc := r_abc.later hbx
  replace hb := below_next hb hbx
  clear hbx
  go_wp2_with fail
  have hj := same_any (joinL (a) (a)) (a) A_aa A_a c_aa c_a w18 r_aa r_a (by repeat (first | omega | exact Nat.zero_le _ | apply lens_join)) (by repeat (first | omega | exact Nat.zero_le _ | apply lens_join))
  rw [same_yes (fun g => by simp only [getL_join]; omega)] at hj
  refine hj.mono ?_
  rintro e w19 ⟨rfl, hbx⟩
  clear hj
  replace r_a := r_a.later hbx
  replace r_b := r_b.later hbx
  replace r_c := r_c.later hbx
  replace r_j := r_j.later hbx
  replace r_ba := r_ba.later hbx
  replace r_jc := r_jc.later hbx
  replace r_bc := r_bc.later hbx
  replace r_abc := r_abc.later hbx
  replace r_aa := r_aa.later hbx
  replace hb := below_next hb hbx
  clear hbx
  go_wp2_with fail
  go_ret
  exact ⟨rfl, hb⟩

end Go.Proofs.YtcipikacgkkapaaDoor
