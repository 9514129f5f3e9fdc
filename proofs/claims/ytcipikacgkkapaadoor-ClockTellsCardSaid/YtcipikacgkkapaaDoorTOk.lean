/-
  ClockTells: each call is as told, of all lists: the law's walk, ok.
-/
import Derived.Test.YtcipikacgkkapaaDoorTc
import Derived.Test.YtcipikacgkkapaaDoorTv
import Derived.Test.YtcipikacgkkapaaDoorNum
namespace Go.Proofs.YtcipikacgkkapaaDoor
open Go.RowKit Go.Stk
attribute [local go_sem] max2_int max_two

set_option maxHeartbeats 4000000 in
theorem tells_ok_00 (a : List Int) (b : List Int) (A_a : Option Addr) (A_b : Option Addr) (c_a : Nat) (c_b : Nat) (w : World) (r_a : RI w A_a a) (r_b : RI w A_b b) (l_a : a.length ≤ 2000) (l_b : b.length ≤ 2000) (n_a : A_a = none → c_a = 0) (n_b : A_b = none → c_b = 0) (ads : List Addr) (hs : Sent w 62 errGs ads) (hp0 : Hid (atMost a b = false)) (hq0 : Hid (atMost b a = false)) (g : Nat) (hg8 : g < 8) (hn : getL a g < 65536) :
    Calls Tryd.prog 10 #[.slice A_a a.length c_a, .slice A_b b.length c_b, .int .i64 g] w (Ret w (.bool true)) := by
  have h_a := r_a.len
  have h_b := r_b.len
  have hn0 := getL_nonneg a g
  have hb : Below w.heap.size w w := Below.refl _ _
  go_enter Tryd.func10, Tryd.ntmps10
  go_wp2_with fail
  refine (alive_any w).mono ?_
  rintro e w1 ⟨rfl, hbx⟩
  replace r_a := r_a.later hbx
  replace r_b := r_b.later hbx
  replace hs := hs.later hbx
  replace hb := below_next hb hbx
  clear hbx
  go_wp2_with fail
  refine (ints_any (a) A_a c_a w1 r_a n_a (by repeat (first | omega | exact Nat.zero_le _ | apply lens_join | (rw [oneL_len]; omega)))).mono ?_
  rintro e w2 ⟨g_x, c_x, rfl, k_x, q_x, m_x, hbx⟩
  replace r_a := r_a.later hbx
  replace r_b := r_b.later hbx
  replace hs := hs.later hbx
  replace hb := below_next hb hbx
  clear hbx
  have r_x := m_x.ri h_a
  go_wp2_with fail
  refine (ints_any (b) A_b c_b w2 r_b n_b (by repeat (first | omega | exact Nat.zero_le _ | apply lens_join | (rw [oneL_len]; omega)))).mono ?_
  rintro e w3 ⟨g_y, c_y, rfl, k_y, q_y, m_y, hbx⟩
  replace r_a := r_a.later hbx
  replace r_b := r_b.later hbx
  replace r_x := r_x.later hbx
  replace hs := hs.later hbx
  replace m_x := m_x.later hbx
  replace hb := below_next hb hbx
  clear hbx
  have r_y := m_y.ri h_b
  go_wp2_with fail
  refine (tick_ok a (some ⟨g_x, 0, none⟩) c_x g w3 r_x (by repeat (first | omega | exact Nat.zero_le _ | apply lens_join | (rw [oneL_len]; omega))) (by omega) hn hn0).mono ?_
  rintro e w4 ⟨v, rfl, ho, hbx⟩
  obtain ⟨A_t, c_t, rfl, _, r_t⟩ := ho.ri
  clear ho
  replace r_a := r_a.later hbx
  replace r_b := r_b.later hbx
  replace r_x := r_x.later hbx
  replace r_y := r_y.later hbx
  replace hs := hs.later hbx
  replace m_x := m_x.later hbx
  replace m_y := m_y.later hbx
  replace hb := below_next hb hbx
  clear hbx
  go_wp2_with fail
  refine (rtick_ok a A_a c_a g w4 r_a n_a (by omega) (by omega) hn).mono ?_
  rintro e w5 ⟨v, rfl, ho, hbx⟩
  obtain ⟨A_w, c_w, rfl, _, r_w⟩ := ho.ri
  clear ho
  replace r_a := r_a.later hbx
  replace r_b := r_b.later hbx
  replace r_x := r_x.later hbx
  replace r_y := r_y.later hbx
  replace r_t := r_t.later hbx
  replace hs := hs.later hbx
  replace m_x := m_x.later hbx
  replace m_y := m_y.later hbx
  replace hb := below_next hb hbx
  clear hbx
  go_wp2_with fail
  have hj := at_any (a) A_a c_a (g : Int) w5 r_a
  refine hj.mono ?_
  rintro e w' ⟨rfl, rfl⟩
  clear hj
  go_wp2_with fail
  have hj := sameInts_any (joinL a (oneL g (getL a g + 1))) (joinL a (oneL g (getL a g + 1))) A_t A_w c_t c_w w5 r_t r_w
  rw [decide_eq_true rfl] at hj
  refine hj.mono ?_
  rintro e w6 ⟨rfl, hbx⟩
  clear hj
  replace r_a := r_a.later hbx
  replace r_b := r_b.later hbx
  replace r_x := r_x.later hbx
  replace r_y := r_y.later hbx
  replace r_t := r_t.later hbx
  replace r_w := r_w.later hbx
  replace hs := hs.later hbx
  replace m_x := m_x.later hbx
  replace m_y := m_y.later hbx
  replace hb := below_next hb hbx
  clear hbx
  clear r_t
  clear r_w
  go_wp2_with fail
  refine (num_nil w6).mono ?_
  rintro e w7 ⟨rfl, hbx⟩
  replace r_a := r_a.later hbx
  replace r_b := r_b.later hbx
  replace r_x := r_x.later hbx
  replace r_y := r_y.later hbx
  replace hs := hs.later hbx
  replace m_x := m_x.later hbx
  replace m_y := m_y.later hbx
  replace hb := below_next hb hbx
  clear hbx
  go_wp2_with fail
  have hj := get_any (a) (some ⟨g_x, 0, none⟩) c_x (g : Int) w7 r_x
  refine hj.mono ?_
  rintro e w' ⟨rfl, rfl⟩
  clear hj
  go_wp2_with fail
  refine (of_any a (some ⟨g_x, 0, none⟩) c_x (g : Int) w7 r_x).mono ?_
  rintro e w8 ⟨rfl, hbx⟩
  replace r_a := r_a.later hbx
  replace r_b := r_b.later hbx
  replace r_x := r_x.later hbx
  replace r_y := r_y.later hbx
  replace hs := hs.later hbx
  replace m_x := m_x.later hbx
  replace m_y := m_y.later hbx
  replace hb := below_next hb hbx
  clear hbx
  go_wp2_with fail
  have hj := join_any (a) (b) (some ⟨g_x, 0, none⟩) (some ⟨g_y, 0, none⟩) c_x c_y w8 r_x r_y (by repeat (first | omega | exact Nat.zero_le _ | apply lens_join | (rw [oneL_len]; omega))) (by repeat (first | omega | exact Nat.zero_le _ | apply lens_join | (rw [oneL_len]; omega)))
  refine hj.mono ?_
  rintro e w9 ⟨v, rfl, ho, hbx⟩
  clear hj
  obtain ⟨A_j1, c_j1, rfl, _, r_j1⟩ := ho.ri
  clear ho
  replace r_a := r_a.later hbx
  replace r_b := r_b.later hbx
  replace r_x := r_x.later hbx
  replace r_y := r_y.later hbx
  replace hs := hs.later hbx
  replace m_x := m_x.later hbx
  replace m_y := m_y.later hbx
  replace hb := below_next hb hbx
  clear hbx
  go_wp2_with fail
  have hj := rjoin_any (a) (b) A_a A_b c_a c_b w9 r_a r_b (by repeat (first | omega | exact Nat.zero_le _ | apply lens_join | (rw [oneL_len]; omega))) (by repeat (first | omega | exact Nat.zero_le _ | apply lens_join | (rw [oneL_len]; omega)))
  refine hj.mono ?_
  rintro e w10 ⟨v, rfl, ho, hbx⟩
  clear hj
  obtain ⟨A_j2, c_j2, rfl, _, r_j2⟩ := ho.ri
  clear ho
  replace r_a := r_a.later hbx
  replace r_b := r_b.later hbx
  replace r_x := r_x.later hbx
  replace r_y := r_y.later hbx
  replace r_j1 := r_j1.later hbx
  replace hs := hs.later hbx
  replace m_x := m_x.later hbx
  replace m_y := m_y.later hbx
  replace hb := below_next hb hbx
  clear hbx
  go_wp2_with fail
  have hj := sameInts_any (joinL (a) (b)) (joinL (a) (b)) A_j1 A_j2 c_j1 c_j2 w10 r_j1 r_j2
  rw [decide_eq_true rfl] at hj
  refine hj.mono ?_
  rintro e w11 ⟨rfl, hbx⟩
  clear hj
  replace r_a := r_a.later hbx
  replace r_b := r_b.later hbx
  replace r_x := r_x.later hbx
  replace r_y := r_y.later hbx
  replace r_j1 := r_j1.later hbx
  replace r_j2 := r_j2.later hbx
  replace hs := hs.later hbx
  replace m_x := m_x.later hbx
  replace m_y := m_y.later hbx
  replace hb := below_next hb hbx
  clear hbx
  clear r_j1
  clear r_j2
  go_wp2_with fail
  have hj := short_any (a) (some ⟨g_x, 0, none⟩) c_x w11 r_x (by repeat (first | omega | exact Nat.zero_le _ | apply lens_join | (rw [oneL_len]; omega)))
  refine hj.mono ?_
  rintro e w12 ⟨v, rfl, ho, hbx⟩
  clear hj
  obtain ⟨A_s1, c_s1, rfl, _, r_s1⟩ := ho.ri
  clear ho
  replace r_a := r_a.later hbx
  replace r_b := r_b.later hbx
  replace r_x := r_x.later hbx
  replace r_y := r_y.later hbx
  replace hs := hs.later hbx
  replace m_x := m_x.later hbx
  replace m_y := m_y.later hbx
  replace hb := below_next hb hbx
  clear hbx
  go_wp2_with fail
  have hj := rshort_any (a) A_a c_a w12 r_a (by repeat (first | omega | exact Nat.zero_le _ | apply lens_join | (rw [oneL_len]; omega)))
  refine hj.mono ?_
  rintro e w13 ⟨v, rfl, ho, hbx⟩
  clear hj
  obtain ⟨A_s2, c_s2, rfl, _, r_s2⟩ := ho.ri
  clear ho
  replace r_a := r_a.later hbx
  replace r_b := r_b.later hbx
  replace r_x := r_x.later hbx
  replace r_y := r_y.later hbx
  replace r_s1 := r_s1.later hbx
  replace hs := hs.later hbx
  replace m_x := m_x.later hbx
  replace m_y := m_y.later hbx
  replace hb := below_next hb hbx
  clear hbx
  go_wp2_with fail
  have hj := sameInts_any (joinL (a) ([])) (joinL (a) ([])) A_s1 A_s2 c_s1 c_s2 w13 r_s1 r_s2
  rw [decide_eq_true rfl] at hj
  refine hj.mono ?_
  rintro e w14 ⟨rfl, hbx⟩
  clear hj
  replace r_a := r_a.later hbx
  replace r_b := r_b.later hbx
  replace r_x := r_x.later hbx
  replace r_y := r_y.later hbx
  replace r_s1 := r_s1.later hbx
  replace r_s2 := r_s2.later hbx
  replace hs := hs.later hbx
  replace m_x := m_x.later hbx
  replace m_y := m_y.later hbx
  replace hb := below_next hb hbx
  clear hbx
  clear r_s1
  clear r_s2
  go_wp2_with fail
  have hj := atMost_any (a) (b) (some ⟨g_x, 0, none⟩) (some ⟨g_y, 0, none⟩) c_x c_y w14 r_x r_y (by repeat (first | omega | exact Nat.zero_le _ | apply lens_join | (rw [oneL_len]; omega))) (by repeat (first | omega | exact Nat.zero_le _ | apply lens_join | (rw [oneL_len]; omega)))
  rw [hp0.out] at hj
  refine hj.mono ?_
  rintro e w15 ⟨rfl, hbx⟩
  clear hj
  replace r_a := r_a.later hbx
  replace r_b := r_b.later hbx
  replace r_x := r_x.later hbx
  replace r_y := r_y.later hbx
  replace hs := hs.later hbx
  replace m_x := m_x.later hbx
  replace m_y := m_y.later hbx
  replace hb := below_next hb hbx
  clear hbx
  go_wp2_with fail
  have hj := leq_any (a) (b) A_a A_b c_a c_b w15 r_a r_b (by repeat (first | omega | exact Nat.zero_le _ | apply lens_join | (rw [oneL_len]; omega))) (by repeat (first | omega | exact Nat.zero_le _ | apply lens_join | (rw [oneL_len]; omega)))
  rw [hp0.out] at hj
  refine hj.mono ?_
  rintro e w' ⟨rfl, rfl⟩
  clear hj
  go_wp2_with fail
  have hj := same_any (a) (b) (some ⟨g_x, 0, none⟩) (some ⟨g_y, 0, none⟩) c_x c_y w15 r_x r_y (by repeat (first | omega | exact Nat.zero_le _ | apply lens_join | (rw [oneL_len]; omega))) (by repeat (first | omega | exact Nat.zero_le _ | apply lens_join | (rw [oneL_len]; omega)))
  rw [(show (atMost a b && atMost b a) = false by rw [hp0.out, hq0.out]; rfl)] at hj
  refine hj.mono ?_
  rintro e w16 ⟨rfl, hbx⟩
  clear hj
  replace r_a := r_a.later hbx
  replace r_b := r_b.later hbx
  replace r_x := r_x.later hbx
  replace r_y := r_y.later hbx
  replace hs := hs.later hbx
  replace m_x := m_x.later hbx
  replace m_y := m_y.later hbx
  replace hb := below_next hb hbx
  clear hbx
  go_wp2_with fail
  have hj := leq_any (a) (b) A_a A_b c_a c_b w16 r_a r_b (by repeat (first | omega | exact Nat.zero_le _ | apply lens_join | (rw [oneL_len]; omega))) (by repeat (first | omega | exact Nat.zero_le _ | apply lens_join | (rw [oneL_len]; omega)))
  rw [hp0.out] at hj
  refine hj.mono ?_
  rintro e w' ⟨rfl, rfl⟩
  clear hj
  go_wp2_with fail
  have hj := apart_any (a) (b) (some ⟨g_x, 0, none⟩) (some ⟨g_y, 0, none⟩) c_x c_y w16 r_x r_y (by repeat (first | omega | exact Nat.zero_le _ | apply lens_join | (rw [oneL_len]; omega))) (by repeat (first | omega | exact Nat.zero_le _ | apply lens_join | (rw [oneL_len]; omega)))
  rw [(show (!atMost a b && !atMost b a) = true by rw [hp0.out, hq0.out]; rfl)] at hj
  refine hj.mono ?_
  rintro e w17 ⟨rfl, hbx⟩
  clear hj
  replace r_a := r_a.later hbx
  replace r_b := r_b.later hbx
  replace r_x := r_x.later hbx
  replace r_y := r_y.later hbx
  replace hs := hs.later hbx
  replace m_x := m_x.later hbx
  replace m_y := m_y.later hbx
  replace hb := below_next hb hbx
  clear hbx
  go_wp2_with fail
  have hj := leq_any (a) (b) A_a A_b c_a c_b w17 r_a r_b (by repeat (first | omega | exact Nat.zero_le _ | apply lens_join | (rw [oneL_len]; omega))) (by repeat (first | omega | exact Nat.zero_le _ | apply lens_join | (rw [oneL_len]; omega)))
  rw [hp0.out] at hj
  refine hj.mono ?_
  rintro e w' ⟨rfl, rfl⟩
  clear hj
  go_wp2_with fail
  have hj := leq_any (b) (a) A_b A_a c_b c_a w17 r_b r_a (by repeat (first | omega | exact Nat.zero_le _ | apply lens_join | (rw [oneL_len]; omega))) (by repeat (first | omega | exact Nat.zero_le _ | apply lens_join | (rw [oneL_len]; omega)))
  rw [hq0.out] at hj
  refine hj.mono ?_
  rintro e w' ⟨rfl, rfl⟩
  clear hj
  go_wp2_with fail
  refine (kept_any a g_x c_x A_a c_a w17 m_x r_a (by repeat (first | omega | exact Nat.zero_le _ | apply lens_join | (rw [oneL_len]; omega))) k_x q_x).mono ?_
  rintro e w18 ⟨rfl, hbx⟩
  replace r_a := r_a.later hbx
  replace r_b := r_b.later hbx
  replace r_x := r_x.later hbx
  replace r_y := r_y.later hbx
  replace hs := hs.later hbx
  replace m_x := m_x.later hbx
  replace m_y := m_y.later hbx
  replace hb := below_next hb hbx
  clear hbx
  go_wp2_with fail
  refine (kept_any b g_y c_y A_b c_b w18 m_y r_b (by repeat (first | omega | exact Nat.zero_le _ | apply lens_join | (rw [oneL_len]; omega))) k_y q_y).mono ?_
  rintro e w19 ⟨rfl, hbx⟩
  replace r_a := r_a.later hbx
  replace r_b := r_b.later hbx
  replace r_x := r_x.later hbx
  replace r_y := r_y.later hbx
  replace hs := hs.later hbx
  replace m_x := m_x.later hbx
  replace m_y := m_y.later hbx
  replace hb := below_next hb hbx
  clear hbx
  go_wp2_with fail
  go_ret
  exact ⟨rfl, hb⟩
set_option maxHeartbeats 4000000 in
theorem tells_ok_01 (a : List Int) (b : List Int) (A_a : Option Addr) (A_b : Option Addr) (c_a : Nat) (c_b : Nat) (w : World) (r_a : RI w A_a a) (r_b : RI w A_b b) (l_a : a.length ≤ 2000) (l_b : b.length ≤ 2000) (n_a : A_a = none → c_a = 0) (n_b : A_b = none → c_b = 0) (ads : List Addr) (hs : Sent w 62 errGs ads) (hp0 : Hid (atMost a b = false)) (hq0 : Hid (atMost b a = true)) (g : Nat) (hg8 : g < 8) (hn : getL a g < 65536) :
    Calls Tryd.prog 10 #[.slice A_a a.length c_a, .slice A_b b.length c_b, .int .i64 g] w (Ret w (.bool true)) := by
  have h_a := r_a.len
  have h_b := r_b.len
  have hn0 := getL_nonneg a g
  have hb : Below w.heap.size w w := Below.refl _ _
  go_enter Tryd.func10, Tryd.ntmps10
  go_wp2_with fail
  refine (alive_any w).mono ?_
  rintro e w1 ⟨rfl, hbx⟩
  replace r_a := r_a.later hbx
  replace r_b := r_b.later hbx
  replace hs := hs.later hbx
  replace hb := below_next hb hbx
  clear hbx
  go_wp2_with fail
  refine (ints_any (a) A_a c_a w1 r_a n_a (by repeat (first | omega | exact Nat.zero_le _ | apply lens_join | (rw [oneL_len]; omega)))).mono ?_
  rintro e w2 ⟨g_x, c_x, rfl, k_x, q_x, m_x, hbx⟩
  replace r_a := r_a.later hbx
  replace r_b := r_b.later hbx
  replace hs := hs.later hbx
  replace hb := below_next hb hbx
  clear hbx
  have r_x := m_x.ri h_a
  go_wp2_with fail
  refine (ints_any (b) A_b c_b w2 r_b n_b (by repeat (first | omega | exact Nat.zero_le _ | apply lens_join | (rw [oneL_len]; omega)))).mono ?_
  rintro e w3 ⟨g_y, c_y, rfl, k_y, q_y, m_y, hbx⟩
  replace r_a := r_a.later hbx
  replace r_b := r_b.later hbx
  replace r_x := r_x.later hbx
  replace hs := hs.later hbx
  replace m_x := m_x.later hbx
  replace hb := below_next hb hbx
  clear hbx
  have r_y := m_y.ri h_b
  go_wp2_with fail
  refine (tick_ok a (some ⟨g_x, 0, none⟩) c_x g w3 r_x (by repeat (first | omega | exact Nat.zero_le _ | apply lens_join | (rw [oneL_len]; omega))) (by omega) hn hn0).mono ?_
  rintro e w4 ⟨v, rfl, ho, hbx⟩
  obtain ⟨A_t, c_t, rfl, _, r_t⟩ := ho.ri
  clear ho
  replace r_a := r_a.later hbx
  replace r_b := r_b.later hbx
  replace r_x := r_x.later hbx
  replace r_y := r_y.later hbx
  replace hs := hs.later hbx
  replace m_x := m_x.later hbx
  replace m_y := m_y.later hbx
  replace hb := below_next hb hbx
  clear hbx
  go_wp2_with fail
  refine (rtick_ok a A_a c_a g w4 r_a n_a (by omega) (by omega) hn).mono ?_
  rintro e w5 ⟨v, rfl, ho, hbx⟩
  obtain ⟨A_w, c_w, rfl, _, r_w⟩ := ho.ri
  clear ho
  replace r_a := r_a.later hbx
  replace r_b := r_b.later hbx
  replace r_x := r_x.later hbx
  replace r_y := r_y.later hbx
  replace r_t := r_t.later hbx
  replace hs := hs.later hbx
  replace m_x := m_x.later hbx
  replace m_y := m_y.later hbx
  replace hb := below_next hb hbx
  clear hbx
  go_wp2_with fail
  have hj := at_any (a) A_a c_a (g : Int) w5 r_a
  refine hj.mono ?_
  rintro e w' ⟨rfl, rfl⟩
  clear hj
  go_wp2_with fail
  have hj := sameInts_any (joinL a (oneL g (getL a g + 1))) (joinL a (oneL g (getL a g + 1))) A_t A_w c_t c_w w5 r_t r_w
  rw [decide_eq_true rfl] at hj
  refine hj.mono ?_
  rintro e w6 ⟨rfl, hbx⟩
  clear hj
  replace r_a := r_a.later hbx
  replace r_b := r_b.later hbx
  replace r_x := r_x.later hbx
  replace r_y := r_y.later hbx
  replace r_t := r_t.later hbx
  replace r_w := r_w.later hbx
  replace hs := hs.later hbx
  replace m_x := m_x.later hbx
  replace m_y := m_y.later hbx
  replace hb := below_next hb hbx
  clear hbx
  clear r_t
  clear r_w
  go_wp2_with fail
  refine (num_nil w6).mono ?_
  rintro e w7 ⟨rfl, hbx⟩
  replace r_a := r_a.later hbx
  replace r_b := r_b.later hbx
  replace r_x := r_x.later hbx
  replace r_y := r_y.later hbx
  replace hs := hs.later hbx
  replace m_x := m_x.later hbx
  replace m_y := m_y.later hbx
  replace hb := below_next hb hbx
  clear hbx
  go_wp2_with fail
  have hj := get_any (a) (some ⟨g_x, 0, none⟩) c_x (g : Int) w7 r_x
  refine hj.mono ?_
  rintro e w' ⟨rfl, rfl⟩
  clear hj
  go_wp2_with fail
  refine (of_any a (some ⟨g_x, 0, none⟩) c_x (g : Int) w7 r_x).mono ?_
  rintro e w8 ⟨rfl, hbx⟩
  replace r_a := r_a.later hbx
  replace r_b := r_b.later hbx
  replace r_x := r_x.later hbx
  replace r_y := r_y.later hbx
  replace hs := hs.later hbx
  replace m_x := m_x.later hbx
  replace m_y := m_y.later hbx
  replace hb := below_next hb hbx
  clear hbx
  go_wp2_with fail
  have hj := join_any (a) (b) (some ⟨g_x, 0, none⟩) (some ⟨g_y, 0, none⟩) c_x c_y w8 r_x r_y (by repeat (first | omega | exact Nat.zero_le _ | apply lens_join | (rw [oneL_len]; omega))) (by repeat (first | omega | exact Nat.zero_le _ | apply lens_join | (rw [oneL_len]; omega)))
  refine hj.mono ?_
  rintro e w9 ⟨v, rfl, ho, hbx⟩
  clear hj
  obtain ⟨A_j1, c_j1, rfl, _, r_j1⟩ := ho.ri
  clear ho
  replace r_a := r_a.later hbx
  replace r_b := r_b.later hbx
  replace r_x := r_x.later hbx
  replace r_y := r_y.later hbx
  replace hs := hs.later hbx
  replace m_x := m_x.later hbx
  replace m_y := m_y.later hbx
  replace hb := below_next hb hbx
  clear hbx
  go_wp2_with fail
  have hj := rjoin_any (a) (b) A_a A_b c_a c_b w9 r_a r_b (by repeat (first | omega | exact Nat.zero_le _ | apply lens_join | (rw [oneL_len]; omega))) (by repeat (first | omega | exact Nat.zero_le _ | apply lens_join | (rw [oneL_len]; omega)))
  refine hj.mono ?_
  rintro e w10 ⟨v, rfl, ho, hbx⟩
  clear hj
  obtain ⟨A_j2, c_j2, rfl, _, r_j2⟩ := ho.ri
  clear ho
  replace r_a := r_a.later hbx
  replace r_b := r_b.later hbx
  replace r_x := r_x.later hbx
  replace r_y := r_y.later hbx
  replace r_j1 := r_j1.later hbx
  replace hs := hs.later hbx
  replace m_x := m_x.later hbx
  replace m_y := m_y.later hbx
  replace hb := below_next hb hbx
  clear hbx
  go_wp2_with fail
  have hj := sameInts_any (joinL (a) (b)) (joinL (a) (b)) A_j1 A_j2 c_j1 c_j2 w10 r_j1 r_j2
  rw [decide_eq_true rfl] at hj
  refine hj.mono ?_
  rintro e w11 ⟨rfl, hbx⟩
  clear hj
  replace r_a := r_a.later hbx
  replace r_b := r_b.later hbx
  replace r_x := r_x.later hbx
  replace r_y := r_y.later hbx
  replace r_j1 := r_j1.later hbx
  replace r_j2 := r_j2.later hbx
  replace hs := hs.later hbx
  replace m_x := m_x.later hbx
  replace m_y := m_y.later hbx
  replace hb := below_next hb hbx
  clear hbx
  clear r_j1
  clear r_j2
  go_wp2_with fail
  have hj := short_any (a) (some ⟨g_x, 0, none⟩) c_x w11 r_x (by repeat (first | omega | exact Nat.zero_le _ | apply lens_join | (rw [oneL_len]; omega)))
  refine hj.mono ?_
  rintro e w12 ⟨v, rfl, ho, hbx⟩
  clear hj
  obtain ⟨A_s1, c_s1, rfl, _, r_s1⟩ := ho.ri
  clear ho
  replace r_a := r_a.later hbx
  replace r_b := r_b.later hbx
  replace r_x := r_x.later hbx
  replace r_y := r_y.later hbx
  replace hs := hs.later hbx
  replace m_x := m_x.later hbx
  replace m_y := m_y.later hbx
  replace hb := below_next hb hbx
  clear hbx
  go_wp2_with fail
  have hj := rshort_any (a) A_a c_a w12 r_a (by repeat (first | omega | exact Nat.zero_le _ | apply lens_join | (rw [oneL_len]; omega)))
  refine hj.mono ?_
  rintro e w13 ⟨v, rfl, ho, hbx⟩
  clear hj
  obtain ⟨A_s2, c_s2, rfl, _, r_s2⟩ := ho.ri
  clear ho
  replace r_a := r_a.later hbx
  replace r_b := r_b.later hbx
  replace r_x := r_x.later hbx
  replace r_y := r_y.later hbx
  replace r_s1 := r_s1.later hbx
  replace hs := hs.later hbx
  replace m_x := m_x.later hbx
  replace m_y := m_y.later hbx
  replace hb := below_next hb hbx
  clear hbx
  go_wp2_with fail
  have hj := sameInts_any (joinL (a) ([])) (joinL (a) ([])) A_s1 A_s2 c_s1 c_s2 w13 r_s1 r_s2
  rw [decide_eq_true rfl] at hj
  refine hj.mono ?_
  rintro e w14 ⟨rfl, hbx⟩
  clear hj
  replace r_a := r_a.later hbx
  replace r_b := r_b.later hbx
  replace r_x := r_x.later hbx
  replace r_y := r_y.later hbx
  replace r_s1 := r_s1.later hbx
  replace r_s2 := r_s2.later hbx
  replace hs := hs.later hbx
  replace m_x := m_x.later hbx
  replace m_y := m_y.later hbx
  replace hb := below_next hb hbx
  clear hbx
  clear r_s1
  clear r_s2
  go_wp2_with fail
  have hj := atMost_any (a) (b) (some ⟨g_x, 0, none⟩) (some ⟨g_y, 0, none⟩) c_x c_y w14 r_x r_y (by repeat (first | omega | exact Nat.zero_le _ | apply lens_join | (rw [oneL_len]; omega))) (by repeat (first | omega | exact Nat.zero_le _ | apply lens_join | (rw [oneL_len]; omega)))
  rw [hp0.out] at hj
  refine hj.mono ?_
  rintro e w15 ⟨rfl, hbx⟩
  clear hj
  replace r_a := r_a.later hbx
  replace r_b := r_b.later hbx
  replace r_x := r_x.later hbx
  replace r_y := r_y.later hbx
  replace hs := hs.later hbx
  replace m_x := m_x.later hbx
  replace m_y := m_y.later hbx
  replace hb := below_next hb hbx
  clear hbx
  go_wp2_with fail
  have hj := leq_any (a) (b) A_a A_b c_a c_b w15 r_a r_b (by repeat (first | omega | exact Nat.zero_le _ | apply lens_join | (rw [oneL_len]; omega))) (by repeat (first | omega | exact Nat.zero_le _ | apply lens_join | (rw [oneL_len]; omega)))
  rw [hp0.out] at hj
  refine hj.mono ?_
  rintro e w' ⟨rfl, rfl⟩
  clear hj
  go_wp2_with fail
  have hj := same_any (a) (b) (some ⟨g_x, 0, none⟩) (some ⟨g_y, 0, none⟩) c_x c_y w15 r_x r_y (by repeat (first | omega | exact Nat.zero_le _ | apply lens_join | (rw [oneL_len]; omega))) (by repeat (first | omega | exact Nat.zero_le _ | apply lens_join | (rw [oneL_len]; omega)))
  rw [(show (atMost a b && atMost b a) = false by rw [hp0.out, hq0.out]; rfl)] at hj
  refine hj.mono ?_
  rintro e w16 ⟨rfl, hbx⟩
  clear hj
  replace r_a := r_a.later hbx
  replace r_b := r_b.later hbx
  replace r_x := r_x.later hbx
  replace r_y := r_y.later hbx
  replace hs := hs.later hbx
  replace m_x := m_x.later hbx
  replace m_y := m_y.later hbx
  replace hb := below_next hb hbx
  clear hbx
  go_wp2_with fail
  have hj := leq_any (a) (b) A_a A_b c_a c_b w16 r_a r_b (by repeat (first | omega | exact Nat.zero_le _ | apply lens_join | (rw [oneL_len]; omega))) (by repeat (first | omega | exact Nat.zero_le _ | apply lens_join | (rw [oneL_len]; omega)))
  rw [hp0.out] at hj
  refine hj.mono ?_
  rintro e w' ⟨rfl, rfl⟩
  clear hj
  go_wp2_with fail
  have hj := apart_any (a) (b) (some ⟨g_x, 0, none⟩) (some ⟨g_y, 0, none⟩) c_x c_y w16 r_x r_y (by repeat (first | omega | exact Nat.zero_le _ | apply lens_join | (rw [oneL_len]; omega))) (by repeat (first | omega | exact Nat.zero_le _ | apply lens_join | (rw [oneL_len]; omega)))
  rw [(show (!atMost a b && !atMost b a) = false by rw [hp0.out, hq0.out]; rfl)] at hj
  refine hj.mono ?_
  rintro e w17 ⟨rfl, hbx⟩
  clear hj
  replace r_a := r_a.later hbx
  replace r_b := r_b.later hbx
  replace r_x := r_x.later hbx
  replace r_y := r_y.later hbx
  replace hs := hs.later hbx
  replace m_x := m_x.later hbx
  replace m_y := m_y.later hbx
  replace hb := below_next hb hbx
  clear hbx
  go_wp2_with fail
  have hj := leq_any (a) (b) A_a A_b c_a c_b w17 r_a r_b (by repeat (first | omega | exact Nat.zero_le _ | apply lens_join | (rw [oneL_len]; omega))) (by repeat (first | omega | exact Nat.zero_le _ | apply lens_join | (rw [oneL_len]; omega)))
  rw [hp0.out] at hj
  refine hj.mono ?_
  rintro e w' ⟨rfl, rfl⟩
  clear hj
  go_wp2_with fail
  have hj := leq_any (b) (a) A_b A_a c_b c_a w17 r_b r_a (by repeat (first | omega | exact Nat.zero_le _ | apply lens_join | (rw [oneL_len]; omega))) (by repeat (first | omega | exact Nat.zero_le _ | apply lens_join | (rw [oneL_len]; omega)))
  rw [hq0.out] at hj
  refine hj.mono ?_
  rintro e w' ⟨rfl, rfl⟩
  clear hj
  go_wp2_with fail
  refine (kept_any a g_x c_x A_a c_a w17 m_x r_a (by repeat (first | omega | exact Nat.zero_le _ | apply lens_join | (rw [oneL_len]; omega))) k_x q_x).mono ?_
  rintro e w18 ⟨rfl, hbx⟩
  replace r_a := r_a.later hbx
  replace r_b := r_b.later hbx
  replace r_x := r_x.later hbx
  replace r_y := r_y.later hbx
  replace hs := hs.later hbx
  replace m_x := m_x.later hbx
  replace m_y := m_y.later hbx
  replace hb := below_next hb hbx
  clear hbx
  go_wp2_with fail
  refine (kept_any b g_y c_y A_b c_b w18 m_y r_b (by repeat (first | omega | exact Nat.zero_le _ | apply lens_join | (rw [oneL_len]; omega))) k_y q_y).mono ?_
  rintro e w19 ⟨rfl, hbx⟩
  replace r_a := r_a.later hbx
  replace r_b := r_b.later hbx
  replace r_x := r_x.later hbx
  replace r_y := r_y.later hbx
  replace hs := hs.later hbx
  replace m_x := m_x.later hbx
  replace m_y := m_y.later hbx
  replace hb := below_next hb hbx
  clear hbx
  go_wp2_with fail
  go_ret
  exact ⟨rfl, hb⟩
set_option maxHeartbeats 4000000 in
theorem tells_ok_10 (a : List Int) (b : List Int) (A_a : Option Addr) (A_b : Option Addr) (c_a : Nat) (c_b : Nat) (w : World) (r_a : RI w A_a a) (r_b : RI w A_b b) (l_a : a.length ≤ 2000) (l_b : b.length ≤ 2000) (n_a : A_a = none → c_a = 0) (n_b : A_b = none → c_b = 0) (ads : List Addr) (hs : Sent w 62 errGs ads) (hp0 : Hid (atMost a b = true)) (hq0 : Hid (atMost b a = false)) (g : Nat) (hg8 : g < 8) (hn : getL a g < 65536) :
    Calls Tryd.prog 10 #[.slice A_a a.length c_a, .slice A_b b.length c_b, .int .i64 g] w (Ret w (.bool true)) := by
  have h_a := r_a.len
  have h_b := r_b.len
  have hn0 := getL_nonneg a g
  have hb : Below w.heap.size w w := Below.refl _ _
  go_enter Tryd.func10, Tryd.ntmps10
  go_wp2_with fail
  refine (alive_any w).mono ?_
  rintro e w1 ⟨rfl, hbx⟩
  replace r_a := r_a.later hbx
  replace r_b := r_b.later hbx
  replace hs := hs.later hbx
  replace hb := below_next hb hbx
  clear hbx
  go_wp2_with fail
  refine (ints_any (a) A_a c_a w1 r_a n_a (by repeat (first | omega | exact Nat.zero_le _ | apply lens_join | (rw [oneL_len]; omega)))).mono ?_
  rintro e w2 ⟨g_x, c_x, rfl, k_x, q_x, m_x, hbx⟩
  replace r_a := r_a.later hbx
  replace r_b := r_b.later hbx
  replace hs := hs.later hbx
  replace hb := below_next hb hbx
  clear hbx
  have r_x := m_x.ri h_a
  go_wp2_with fail
  refine (ints_any (b) A_b c_b w2 r_b n_b (by repeat (first | omega | exact Nat.zero_le _ | apply lens_join | (rw [oneL_len]; omega)))).mono ?_
  rintro e w3 ⟨g_y, c_y, rfl, k_y, q_y, m_y, hbx⟩
  replace r_a := r_a.later hbx
  replace r_b := r_b.later hbx
  replace r_x := r_x.later hbx
  replace hs := hs.later hbx
  replace m_x := m_x.later hbx
  replace hb := below_next hb hbx
  clear hbx
  have r_y := m_y.ri h_b
  go_wp2_with fail
  refine (tick_ok a (some ⟨g_x, 0, none⟩) c_x g w3 r_x (by repeat (first | omega | exact Nat.zero_le _ | apply lens_join | (rw [oneL_len]; omega))) (by omega) hn hn0).mono ?_
  rintro e w4 ⟨v, rfl, ho, hbx⟩
  obtain ⟨A_t, c_t, rfl, _, r_t⟩ := ho.ri
  clear ho
  replace r_a := r_a.later hbx
  replace r_b := r_b.later hbx
  replace r_x := r_x.later hbx
  replace r_y := r_y.later hbx
  replace hs := hs.later hbx
  replace m_x := m_x.later hbx
  replace m_y := m_y.later hbx
  replace hb := below_next hb hbx
  clear hbx
  go_wp2_with fail
  refine (rtick_ok a A_a c_a g w4 r_a n_a (by omega) (by omega) hn).mono ?_
  rintro e w5 ⟨v, rfl, ho, hbx⟩
  obtain ⟨A_w, c_w, rfl, _, r_w⟩ := ho.ri
  clear ho
  replace r_a := r_a.later hbx
  replace r_b := r_b.later hbx
  replace r_x := r_x.later hbx
  replace r_y := r_y.later hbx
  replace r_t := r_t.later hbx
  replace hs := hs.later hbx
  replace m_x := m_x.later hbx
  replace m_y := m_y.later hbx
  replace hb := below_next hb hbx
  clear hbx
  go_wp2_with fail
  have hj := at_any (a) A_a c_a (g : Int) w5 r_a
  refine hj.mono ?_
  rintro e w' ⟨rfl, rfl⟩
  clear hj
  go_wp2_with fail
  have hj := sameInts_any (joinL a (oneL g (getL a g + 1))) (joinL a (oneL g (getL a g + 1))) A_t A_w c_t c_w w5 r_t r_w
  rw [decide_eq_true rfl] at hj
  refine hj.mono ?_
  rintro e w6 ⟨rfl, hbx⟩
  clear hj
  replace r_a := r_a.later hbx
  replace r_b := r_b.later hbx
  replace r_x := r_x.later hbx
  replace r_y := r_y.later hbx
  replace r_t := r_t.later hbx
  replace r_w := r_w.later hbx
  replace hs := hs.later hbx
  replace m_x := m_x.later hbx
  replace m_y := m_y.later hbx
  replace hb := below_next hb hbx
  clear hbx
  clear r_t
  clear r_w
  go_wp2_with fail
  refine (num_nil w6).mono ?_
  rintro e w7 ⟨rfl, hbx⟩
  replace r_a := r_a.later hbx
  replace r_b := r_b.later hbx
  replace r_x := r_x.later hbx
  replace r_y := r_y.later hbx
  replace hs := hs.later hbx
  replace m_x := m_x.later hbx
  replace m_y := m_y.later hbx
  replace hb := below_next hb hbx
  clear hbx
  go_wp2_with fail
  have hj := get_any (a) (some ⟨g_x, 0, none⟩) c_x (g : Int) w7 r_x
  refine hj.mono ?_
  rintro e w' ⟨rfl, rfl⟩
  clear hj
  go_wp2_with fail
  refine (of_any a (some ⟨g_x, 0, none⟩) c_x (g : Int) w7 r_x).mono ?_
  rintro e w8 ⟨rfl, hbx⟩
  replace r_a := r_a.later hbx
  replace r_b := r_b.later hbx
  replace r_x := r_x.later hbx
  replace r_y := r_y.later hbx
  replace hs := hs.later hbx
  replace m_x := m_x.later hbx
  replace m_y := m_y.later hbx
  replace hb := below_next hb hbx
  clear hbx
  go_wp2_with fail
  have hj := join_any (a) (b) (some ⟨g_x, 0, none⟩) (some ⟨g_y, 0, none⟩) c_x c_y w8 r_x r_y (by repeat (first | omega | exact Nat.zero_le _ | apply lens_join | (rw [oneL_len]; omega))) (by repeat (first | omega | exact Nat.zero_le _ | apply lens_join | (rw [oneL_len]; omega)))
  refine hj.mono ?_
  rintro e w9 ⟨v, rfl, ho, hbx⟩
  clear hj
  obtain ⟨A_j1, c_j1, rfl, _, r_j1⟩ := ho.ri
  clear ho
  replace r_a := r_a.later hbx
  replace r_b := r_b.later hbx
  replace r_x := r_x.later hbx
  replace r_y := r_y.later hbx
  replace hs := hs.later hbx
  replace m_x := m_x.later hbx
  replace m_y := m_y.later hbx
  replace hb := below_next hb hbx
  clear hbx
  go_wp2_with fail
  have hj := rjoin_any (a) (b) A_a A_b c_a c_b w9 r_a r_b (by repeat (first | omega | exact Nat.zero_le _ | apply lens_join | (rw [oneL_len]; omega))) (by repeat (first | omega | exact Nat.zero_le _ | apply lens_join | (rw [oneL_len]; omega)))
  refine hj.mono ?_
  rintro e w10 ⟨v, rfl, ho, hbx⟩
  clear hj
  obtain ⟨A_j2, c_j2, rfl, _, r_j2⟩ := ho.ri
  clear ho
  replace r_a := r_a.later hbx
  replace r_b := r_b.later hbx
  replace r_x := r_x.later hbx
  replace r_y := r_y.later hbx
  replace r_j1 := r_j1.later hbx
  replace hs := hs.later hbx
  replace m_x := m_x.later hbx
  replace m_y := m_y.later hbx
  replace hb := below_next hb hbx
  clear hbx
  go_wp2_with fail
  have hj := sameInts_any (joinL (a) (b)) (joinL (a) (b)) A_j1 A_j2 c_j1 c_j2 w10 r_j1 r_j2
  rw [decide_eq_true rfl] at hj
  refine hj.mono ?_
  rintro e w11 ⟨rfl, hbx⟩
  clear hj
  replace r_a := r_a.later hbx
  replace r_b := r_b.later hbx
  replace r_x := r_x.later hbx
  replace r_y := r_y.later hbx
  replace r_j1 := r_j1.later hbx
  replace r_j2 := r_j2.later hbx
  replace hs := hs.later hbx
  replace m_x := m_x.later hbx
  replace m_y := m_y.later hbx
  replace hb := below_next hb hbx
  clear hbx
  clear r_j1
  clear r_j2
  go_wp2_with fail
  have hj := short_any (a) (some ⟨g_x, 0, none⟩) c_x w11 r_x (by repeat (first | omega | exact Nat.zero_le _ | apply lens_join | (rw [oneL_len]; omega)))
  refine hj.mono ?_
  rintro e w12 ⟨v, rfl, ho, hbx⟩
  clear hj
  obtain ⟨A_s1, c_s1, rfl, _, r_s1⟩ := ho.ri
  clear ho
  replace r_a := r_a.later hbx
  replace r_b := r_b.later hbx
  replace r_x := r_x.later hbx
  replace r_y := r_y.later hbx
  replace hs := hs.later hbx
  replace m_x := m_x.later hbx
  replace m_y := m_y.later hbx
  replace hb := below_next hb hbx
  clear hbx
  go_wp2_with fail
  have hj := rshort_any (a) A_a c_a w12 r_a (by repeat (first | omega | exact Nat.zero_le _ | apply lens_join | (rw [oneL_len]; omega)))
  refine hj.mono ?_
  rintro e w13 ⟨v, rfl, ho, hbx⟩
  clear hj
  obtain ⟨A_s2, c_s2, rfl, _, r_s2⟩ := ho.ri
  clear ho
  replace r_a := r_a.later hbx
  replace r_b := r_b.later hbx
  replace r_x := r_x.later hbx
  replace r_y := r_y.later hbx
  replace r_s1 := r_s1.later hbx
  replace hs := hs.later hbx
  replace m_x := m_x.later hbx
  replace m_y := m_y.later hbx
  replace hb := below_next hb hbx
  clear hbx
  go_wp2_with fail
  have hj := sameInts_any (joinL (a) ([])) (joinL (a) ([])) A_s1 A_s2 c_s1 c_s2 w13 r_s1 r_s2
  rw [decide_eq_true rfl] at hj
  refine hj.mono ?_
  rintro e w14 ⟨rfl, hbx⟩
  clear hj
  replace r_a := r_a.later hbx
  replace r_b := r_b.later hbx
  replace r_x := r_x.later hbx
  replace r_y := r_y.later hbx
  replace r_s1 := r_s1.later hbx
  replace r_s2 := r_s2.later hbx
  replace hs := hs.later hbx
  replace m_x := m_x.later hbx
  replace m_y := m_y.later hbx
  replace hb := below_next hb hbx
  clear hbx
  clear r_s1
  clear r_s2
  go_wp2_with fail
  have hj := atMost_any (a) (b) (some ⟨g_x, 0, none⟩) (some ⟨g_y, 0, none⟩) c_x c_y w14 r_x r_y (by repeat (first | omega | exact Nat.zero_le _ | apply lens_join | (rw [oneL_len]; omega))) (by repeat (first | omega | exact Nat.zero_le _ | apply lens_join | (rw [oneL_len]; omega)))
  rw [hp0.out] at hj
  refine hj.mono ?_
  rintro e w15 ⟨rfl, hbx⟩
  clear hj
  replace r_a := r_a.later hbx
  replace r_b := r_b.later hbx
  replace r_x := r_x.later hbx
  replace r_y := r_y.later hbx
  replace hs := hs.later hbx
  replace m_x := m_x.later hbx
  replace m_y := m_y.later hbx
  replace hb := below_next hb hbx
  clear hbx
  go_wp2_with fail
  have hj := leq_any (a) (b) A_a A_b c_a c_b w15 r_a r_b (by repeat (first | omega | exact Nat.zero_le _ | apply lens_join | (rw [oneL_len]; omega))) (by repeat (first | omega | exact Nat.zero_le _ | apply lens_join | (rw [oneL_len]; omega)))
  rw [hp0.out] at hj
  refine hj.mono ?_
  rintro e w' ⟨rfl, rfl⟩
  clear hj
  go_wp2_with fail
  have hj := same_any (a) (b) (some ⟨g_x, 0, none⟩) (some ⟨g_y, 0, none⟩) c_x c_y w15 r_x r_y (by repeat (first | omega | exact Nat.zero_le _ | apply lens_join | (rw [oneL_len]; omega))) (by repeat (first | omega | exact Nat.zero_le _ | apply lens_join | (rw [oneL_len]; omega)))
  rw [(show (atMost a b && atMost b a) = false by rw [hp0.out, hq0.out]; rfl)] at hj
  refine hj.mono ?_
  rintro e w16 ⟨rfl, hbx⟩
  clear hj
  replace r_a := r_a.later hbx
  replace r_b := r_b.later hbx
  replace r_x := r_x.later hbx
  replace r_y := r_y.later hbx
  replace hs := hs.later hbx
  replace m_x := m_x.later hbx
  replace m_y := m_y.later hbx
  replace hb := below_next hb hbx
  clear hbx
  go_wp2_with fail
  have hj := leq_any (a) (b) A_a A_b c_a c_b w16 r_a r_b (by repeat (first | omega | exact Nat.zero_le _ | apply lens_join | (rw [oneL_len]; omega))) (by repeat (first | omega | exact Nat.zero_le _ | apply lens_join | (rw [oneL_len]; omega)))
  rw [hp0.out] at hj
  refine hj.mono ?_
  rintro e w' ⟨rfl, rfl⟩
  clear hj
  go_wp2_with fail
  have hj := leq_any (b) (a) A_b A_a c_b c_a w16 r_b r_a (by repeat (first | omega | exact Nat.zero_le _ | apply lens_join | (rw [oneL_len]; omega))) (by repeat (first | omega | exact Nat.zero_le _ | apply lens_join | (rw [oneL_len]; omega)))
  rw [hq0.out] at hj
  refine hj.mono ?_
  rintro e w' ⟨rfl, rfl⟩
  clear hj
  go_wp2_with fail
  have hj := apart_any (a) (b) (some ⟨g_x, 0, none⟩) (some ⟨g_y, 0, none⟩) c_x c_y w16 r_x r_y (by repeat (first | omega | exact Nat.zero_le _ | apply lens_join | (rw [oneL_len]; omega))) (by repeat (first | omega | exact Nat.zero_le _ | apply lens_join | (rw [oneL_len]; omega)))
  rw [(show (!atMost a b && !atMost b a) = false by rw [hp0.out, hq0.out]; rfl)] at hj
  refine hj.mono ?_
  rintro e w17 ⟨rfl, hbx⟩
  clear hj
  replace r_a := r_a.later hbx
  replace r_b := r_b.later hbx
  replace r_x := r_x.later hbx
  replace r_y := r_y.later hbx
  replace hs := hs.later hbx
  replace m_x := m_x.later hbx
  replace m_y := m_y.later hbx
  replace hb := below_next hb hbx
  clear hbx
  go_wp2_with fail
  have hj := leq_any (a) (b) A_a A_b c_a c_b w17 r_a r_b (by repeat (first | omega | exact Nat.zero_le _ | apply lens_join | (rw [oneL_len]; omega))) (by repeat (first | omega | exact Nat.zero_le _ | apply lens_join | (rw [oneL_len]; omega)))
  rw [hp0.out] at hj
  refine hj.mono ?_
  rintro e w' ⟨rfl, rfl⟩
  clear hj
  go_wp2_with fail
  refine (kept_any a g_x c_x A_a c_a w17 m_x r_a (by repeat (first | omega | exact Nat.zero_le _ | apply lens_join | (rw [oneL_len]; omega))) k_x q_x).mono ?_
  rintro e w18 ⟨rfl, hbx⟩
  replace r_a := r_a.later hbx
  replace r_b := r_b.later hbx
  replace r_x := r_x.later hbx
  replace r_y := r_y.later hbx
  replace hs := hs.later hbx
  replace m_x := m_x.later hbx
  replace m_y := m_y.later hbx
  replace hb := below_next hb hbx
  clear hbx
  go_wp2_with fail
  refine (kept_any b g_y c_y A_b c_b w18 m_y r_b (by repeat (first | omega | exact Nat.zero_le _ | apply lens_join | (rw [oneL_len]; omega))) k_y q_y).mono ?_
  rintro e w19 ⟨rfl, hbx⟩
  replace r_a := r_a.later hbx
  replace r_b := r_b.later hbx
  replace r_x := r_x.later hbx
  replace r_y := r_y.later hbx
  replace hs := hs.later hbx
  replace m_x := m_x.later hbx
  replace m_y := m_y.later hbx
  replace hb := below_next hb hbx
  clear hbx
  go_wp2_with fail
  go_ret
  exact ⟨rfl, hb⟩
set_option maxHeartbeats 4000000 in
theorem tells_ok_11 (a : List Int) (b : List Int) (A_a : Option Addr) (A_b : Option Addr) (c_a : Nat) (c_b : Nat) (w : World) (r_a : RI w A_a a) (r_b : RI w A_b b) (l_a : a.length ≤ 2000) (l_b : b.length ≤ 2000) (n_a : A_a = none → c_a = 0) (n_b : A_b = none → c_b = 0) (ads : List Addr) (hs : Sent w 62 errGs ads) (hp0 : Hid (atMost a b = true)) (hq0 : Hid (atMost b a = true)) (g : Nat) (hg8 : g < 8) (hn : getL a g < 65536) :
    Calls Tryd.prog 10 #[.slice A_a a.length c_a, .slice A_b b.length c_b, .int .i64 g] w (Ret w (.bool true)) := by
  have h_a := r_a.len
  have h_b := r_b.len
  have hn0 := getL_nonneg a g
  have hb : Below w.heap.size w w := Below.refl _ _
  go_enter Tryd.func10, Tryd.ntmps10
  go_wp2_with fail
  refine (alive_any w).mono ?_
  rintro e w1 ⟨rfl, hbx⟩
  replace r_a := r_a.later hbx
  replace r_b := r_b.later hbx
  replace hs := hs.later hbx
  replace hb := below_next hb hbx
  clear hbx
  go_wp2_with fail
  refine (ints_any (a) A_a c_a w1 r_a n_a (by repeat (first | omega | exact Nat.zero_le _ | apply lens_join | (rw [oneL_len]; omega)))).mono ?_
  rintro e w2 ⟨g_x, c_x, rfl, k_x, q_x, m_x, hbx⟩
  replace r_a := r_a.later hbx
  replace r_b := r_b.later hbx
  replace hs := hs.later hbx
  replace hb := below_next hb hbx
  clear hbx
  have r_x := m_x.ri h_a
  go_wp2_with fail
  refine (ints_any (b) A_b c_b w2 r_b n_b (by repeat (first | omega | exact Nat.zero_le _ | apply lens_join | (rw [oneL_len]; omega)))).mono ?_
  rintro e w3 ⟨g_y, c_y, rfl, k_y, q_y, m_y, hbx⟩
  replace r_a := r_a.later hbx
  replace r_b := r_b.later hbx
  replace r_x := r_x.later hbx
  replace hs := hs.later hbx
  replace m_x := m_x.later hbx
  replace hb := below_next hb hbx
  clear hbx
  have r_y := m_y.ri h_b
  go_wp2_with fail
  refine (tick_ok a (some ⟨g_x, 0, none⟩) c_x g w3 r_x (by repeat (first | omega | exact Nat.zero_le _ | apply lens_join | (rw [oneL_len]; omega))) (by omega) hn hn0).mono ?_
  rintro e w4 ⟨v, rfl, ho, hbx⟩
  obtain ⟨A_t, c_t, rfl, _, r_t⟩ := ho.ri
  clear ho
  replace r_a := r_a.later hbx
  replace r_b := r_b.later hbx
  replace r_x := r_x.later hbx
  replace r_y := r_y.later hbx
  replace hs := hs.later hbx
  replace m_x := m_x.later hbx
  replace m_y := m_y.later hbx
  replace hb := below_next hb hbx
  clear hbx
  go_wp2_with fail
  refine (rtick_ok a A_a c_a g w4 r_a n_a (by omega) (by omega) hn).mono ?_
  rintro e w5 ⟨v, rfl, ho, hbx⟩
  obtain ⟨A_w, c_w, rfl, _, r_w⟩ := ho.ri
  clear ho
  replace r_a := r_a.later hbx
  replace r_b := r_b.later hbx
  replace r_x := r_x.later hbx
  replace r_y := r_y.later hbx
  replace r_t := r_t.later hbx
  replace hs := hs.later hbx
  replace m_x := m_x.later hbx
  replace m_y := m_y.later hbx
  replace hb := below_next hb hbx
  clear hbx
  go_wp2_with fail
  have hj := at_any (a) A_a c_a (g : Int) w5 r_a
  refine hj.mono ?_
  rintro e w' ⟨rfl, rfl⟩
  clear hj
  go_wp2_with fail
  have hj := sameInts_any (joinL a (oneL g (getL a g + 1))) (joinL a (oneL g (getL a g + 1))) A_t A_w c_t c_w w5 r_t r_w
  rw [decide_eq_true rfl] at hj
  refine hj.mono ?_
  rintro e w6 ⟨rfl, hbx⟩
  clear hj
  replace r_a := r_a.later hbx
  replace r_b := r_b.later hbx
  replace r_x := r_x.later hbx
  replace r_y := r_y.later hbx
  replace r_t := r_t.later hbx
  replace r_w := r_w.later hbx
  replace hs := hs.later hbx
  replace m_x := m_x.later hbx
  replace m_y := m_y.later hbx
  replace hb := below_next hb hbx
  clear hbx
  clear r_t
  clear r_w
  go_wp2_with fail
  refine (num_nil w6).mono ?_
  rintro e w7 ⟨rfl, hbx⟩
  replace r_a := r_a.later hbx
  replace r_b := r_b.later hbx
  replace r_x := r_x.later hbx
  replace r_y := r_y.later hbx
  replace hs := hs.later hbx
  replace m_x := m_x.later hbx
  replace m_y := m_y.later hbx
  replace hb := below_next hb hbx
  clear hbx
  go_wp2_with fail
  have hj := get_any (a) (some ⟨g_x, 0, none⟩) c_x (g : Int) w7 r_x
  refine hj.mono ?_
  rintro e w' ⟨rfl, rfl⟩
  clear hj
  go_wp2_with fail
  refine (of_any a (some ⟨g_x, 0, none⟩) c_x (g : Int) w7 r_x).mono ?_
  rintro e w8 ⟨rfl, hbx⟩
  replace r_a := r_a.later hbx
  replace r_b := r_b.later hbx
  replace r_x := r_x.later hbx
  replace r_y := r_y.later hbx
  replace hs := hs.later hbx
  replace m_x := m_x.later hbx
  replace m_y := m_y.later hbx
  replace hb := below_next hb hbx
  clear hbx
  go_wp2_with fail
  have hj := join_any (a) (b) (some ⟨g_x, 0, none⟩) (some ⟨g_y, 0, none⟩) c_x c_y w8 r_x r_y (by repeat (first | omega | exact Nat.zero_le _ | apply lens_join | (rw [oneL_len]; omega))) (by repeat (first | omega | exact Nat.zero_le _ | apply lens_join | (rw [oneL_len]; omega)))
  refine hj.mono ?_
  rintro e w9 ⟨v, rfl, ho, hbx⟩
  clear hj
  obtain ⟨A_j1, c_j1, rfl, _, r_j1⟩ := ho.ri
  clear ho
  replace r_a := r_a.later hbx
  replace r_b := r_b.later hbx
  replace r_x := r_x.later hbx
  replace r_y := r_y.later hbx
  replace hs := hs.later hbx
  replace m_x := m_x.later hbx
  replace m_y := m_y.later hbx
  replace hb := below_next hb hbx
  clear hbx
  go_wp2_with fail
  have hj := rjoin_any (a) (b) A_a A_b c_a c_b w9 r_a r_b (by repeat (first | omega | exact Nat.zero_le _ | apply lens_join | (rw [oneL_len]; omega))) (by repeat (first | omega | exact Nat.zero_le _ | apply lens_join | (rw [oneL_len]; omega)))
  refine hj.mono ?_
  rintro e w10 ⟨v, rfl, ho, hbx⟩
  clear hj
  obtain ⟨A_j2, c_j2, rfl, _, r_j2⟩ := ho.ri
  clear ho
  replace r_a := r_a.later hbx
  replace r_b := r_b.later hbx
  replace r_x := r_x.later hbx
  replace r_y := r_y.later hbx
  replace r_j1 := r_j1.later hbx
  replace hs := hs.later hbx
  replace m_x := m_x.later hbx
  replace m_y := m_y.later hbx
  replace hb := below_next hb hbx
  clear hbx
  go_wp2_with fail
  have hj := sameInts_any (joinL (a) (b)) (joinL (a) (b)) A_j1 A_j2 c_j1 c_j2 w10 r_j1 r_j2
  rw [decide_eq_true rfl] at hj
  refine hj.mono ?_
  rintro e w11 ⟨rfl, hbx⟩
  clear hj
  replace r_a := r_a.later hbx
  replace r_b := r_b.later hbx
  replace r_x := r_x.later hbx
  replace r_y := r_y.later hbx
  replace r_j1 := r_j1.later hbx
  replace r_j2 := r_j2.later hbx
  replace hs := hs.later hbx
  replace m_x := m_x.later hbx
  replace m_y := m_y.later hbx
  replace hb := below_next hb hbx
  clear hbx
  clear r_j1
  clear r_j2
  go_wp2_with fail
  have hj := short_any (a) (some ⟨g_x, 0, none⟩) c_x w11 r_x (by repeat (first | omega | exact Nat.zero_le _ | apply lens_join | (rw [oneL_len]; omega)))
  refine hj.mono ?_
  rintro e w12 ⟨v, rfl, ho, hbx⟩
  clear hj
  obtain ⟨A_s1, c_s1, rfl, _, r_s1⟩ := ho.ri
  clear ho
  replace r_a := r_a.later hbx
  replace r_b := r_b.later hbx
  replace r_x := r_x.later hbx
  replace r_y := r_y.later hbx
  replace hs := hs.later hbx
  replace m_x := m_x.later hbx
  replace m_y := m_y.later hbx
  replace hb := below_next hb hbx
  clear hbx
  go_wp2_with fail
  have hj := rshort_any (a) A_a c_a w12 r_a (by repeat (first | omega | exact Nat.zero_le _ | apply lens_join | (rw [oneL_len]; omega)))
  refine hj.mono ?_
  rintro e w13 ⟨v, rfl, ho, hbx⟩
  clear hj
  obtain ⟨A_s2, c_s2, rfl, _, r_s2⟩ := ho.ri
  clear ho
  replace r_a := r_a.later hbx
  replace r_b := r_b.later hbx
  replace r_x := r_x.later hbx
  replace r_y := r_y.later hbx
  replace r_s1 := r_s1.later hbx
  replace hs := hs.later hbx
  replace m_x := m_x.later hbx
  replace m_y := m_y.later hbx
  replace hb := below_next hb hbx
  clear hbx
  go_wp2_with fail
  have hj := sameInts_any (joinL (a) ([])) (joinL (a) ([])) A_s1 A_s2 c_s1 c_s2 w13 r_s1 r_s2
  rw [decide_eq_true rfl] at hj
  refine hj.mono ?_
  rintro e w14 ⟨rfl, hbx⟩
  clear hj
  replace r_a := r_a.later hbx
  replace r_b := r_b.later hbx
  replace r_x := r_x.later hbx
  replace r_y := r_y.later hbx
  replace r_s1 := r_s1.later hbx
  replace r_s2 := r_s2.later hbx
  replace hs := hs.later hbx
  replace m_x := m_x.later hbx
  replace m_y := m_y.later hbx
  replace hb := below_next hb hbx
  clear hbx
  clear r_s1
  clear r_s2
  go_wp2_with fail
  have hj := atMost_any (a) (b) (some ⟨g_x, 0, none⟩) (some ⟨g_y, 0, none⟩) c_x c_y w14 r_x r_y (by repeat (first | omega | exact Nat.zero_le _ | apply lens_join | (rw [oneL_len]; omega))) (by repeat (first | omega | exact Nat.zero_le _ | apply lens_join | (rw [oneL_len]; omega)))
  rw [hp0.out] at hj
  refine hj.mono ?_
  rintro e w15 ⟨rfl, hbx⟩
  clear hj
  replace r_a := r_a.later hbx
  replace r_b := r_b.later hbx
  replace r_x := r_x.later hbx
  replace r_y := r_y.later hbx
  replace hs := hs.later hbx
  replace m_x := m_x.later hbx
  replace m_y := m_y.later hbx
  replace hb := below_next hb hbx
  clear hbx
  go_wp2_with fail
  have hj := leq_any (a) (b) A_a A_b c_a c_b w15 r_a r_b (by repeat (first | omega | exact Nat.zero_le _ | apply lens_join | (rw [oneL_len]; omega))) (by repeat (first | omega | exact Nat.zero_le _ | apply lens_join | (rw [oneL_len]; omega)))
  rw [hp0.out] at hj
  refine hj.mono ?_
  rintro e w' ⟨rfl, rfl⟩
  clear hj
  go_wp2_with fail
  have hj := same_any (a) (b) (some ⟨g_x, 0, none⟩) (some ⟨g_y, 0, none⟩) c_x c_y w15 r_x r_y (by repeat (first | omega | exact Nat.zero_le _ | apply lens_join | (rw [oneL_len]; omega))) (by repeat (first | omega | exact Nat.zero_le _ | apply lens_join | (rw [oneL_len]; omega)))
  rw [(show (atMost a b && atMost b a) = true by rw [hp0.out, hq0.out]; rfl)] at hj
  refine hj.mono ?_
  rintro e w16 ⟨rfl, hbx⟩
  clear hj
  replace r_a := r_a.later hbx
  replace r_b := r_b.later hbx
  replace r_x := r_x.later hbx
  replace r_y := r_y.later hbx
  replace hs := hs.later hbx
  replace m_x := m_x.later hbx
  replace m_y := m_y.later hbx
  replace hb := below_next hb hbx
  clear hbx
  go_wp2_with fail
  have hj := leq_any (a) (b) A_a A_b c_a c_b w16 r_a r_b (by repeat (first | omega | exact Nat.zero_le _ | apply lens_join | (rw [oneL_len]; omega))) (by repeat (first | omega | exact Nat.zero_le _ | apply lens_join | (rw [oneL_len]; omega)))
  rw [hp0.out] at hj
  refine hj.mono ?_
  rintro e w' ⟨rfl, rfl⟩
  clear hj
  go_wp2_with fail
  have hj := leq_any (b) (a) A_b A_a c_b c_a w16 r_b r_a (by repeat (first | omega | exact Nat.zero_le _ | apply lens_join | (rw [oneL_len]; omega))) (by repeat (first | omega | exact Nat.zero_le _ | apply lens_join | (rw [oneL_len]; omega)))
  rw [hq0.out] at hj
  refine hj.mono ?_
  rintro e w' ⟨rfl, rfl⟩
  clear hj
  go_wp2_with fail
  have hj := apart_any (a) (b) (some ⟨g_x, 0, none⟩) (some ⟨g_y, 0, none⟩) c_x c_y w16 r_x r_y (by repeat (first | omega | exact Nat.zero_le _ | apply lens_join | (rw [oneL_len]; omega))) (by repeat (first | omega | exact Nat.zero_le _ | apply lens_join | (rw [oneL_len]; omega)))
  rw [(show (!atMost a b && !atMost b a) = false by rw [hp0.out, hq0.out]; rfl)] at hj
  refine hj.mono ?_
  rintro e w17 ⟨rfl, hbx⟩
  clear hj
  replace r_a := r_a.later hbx
  replace r_b := r_b.later hbx
  replace r_x := r_x.later hbx
  replace r_y := r_y.later hbx
  replace hs := hs.later hbx
  replace m_x := m_x.later hbx
  replace m_y := m_y.later hbx
  replace hb := below_next hb hbx
  clear hbx
  go_wp2_with fail
  have hj := leq_any (a) (b) A_a A_b c_a c_b w17 r_a r_b (by repeat (first | omega | exact Nat.zero_le _ | apply lens_join | (rw [oneL_len]; omega))) (by repeat (first | omega | exact Nat.zero_le _ | apply lens_join | (rw [oneL_len]; omega)))
  rw [hp0.out] at hj
  refine hj.mono ?_
  rintro e w' ⟨rfl, rfl⟩
  clear hj
  go_wp2_with fail
  refine (kept_any a g_x c_x A_a c_a w17 m_x r_a (by repeat (first | omega | exact Nat.zero_le _ | apply lens_join | (rw [oneL_len]; omega))) k_x q_x).mono ?_
  rintro e w18 ⟨rfl, hbx⟩
  replace r_a := r_a.later hbx
  replace r_b := r_b.later hbx
  replace r_x := r_x.later hbx
  replace r_y := r_y.later hbx
  replace hs := hs.later hbx
  replace m_x := m_x.later hbx
  replace m_y := m_y.later hbx
  replace hb := below_next hb hbx
  clear hbx
  go_wp2_with fail
  refine (kept_any b g_y c_y A_b c_b w18 m_y r_b (by repeat (first | omega | exact Nat.zero_le _ | apply lens_join | (rw [oneL_len]; omega))) k_y q_y).mono ?_
  rintro e w19 ⟨rfl, hbx⟩
  replace r_a := r_a.later hbx
  replace r_b := r_b.later hbx
  replace r_x := r_x.later hbx
  replace r_y := r_y.later hbx
  replace hs := hs.later hbx
  replace m_x := m_x.later hbx
  replace m_y := m_y.later hbx
  replace hb := below_next hb hbx
  clear hbx
  go_wp2_with fail
  go_ret
  exact ⟨rfl, hb⟩

end Go.Proofs.YtcipikacgkkapaaDoor
