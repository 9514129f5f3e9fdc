/-
  ClockTells: each call is as told, of all lists: the law's walk, full.
-/
import Derived.Test.YtcipikacgkkapaaDoorTc
import Derived.Test.YtcipikacgkkapaaDoorTv
import Derived.Test.YtcipikacgkkapaaDoorNum
namespace Go.Proofs.YtcipikacgkkapaaDoor
open Go.RowKit Go.Stk
attribute [local go_sem] max2_int max_two

set_option maxHeartbeats 4000000 in
theorem tells_full_00 (a : List Int) (b : List Int) (A_a : Option Addr) (A_b : Option Addr) (c_a : Nat) (c_b : Nat) (w : World) (r_a : RI w A_a a) (r_b : RI w A_b b) (l_a : a.length ≤ 2000) (l_b : b.length ≤ 2000) (n_a : A_a = none → c_a = 0) (n_b : A_b = none → c_b = 0) (ads : List Addr) (hs : Sent w 62 errGs ads) (hp0 : Hid (atMost a b = false)) (hq0 : Hid (atMost b a = false)) (g : Int) (hg : 0 ≤ g) (hg8 : g < 8) (hn : 65536 ≤ getL a g) :
    Calls Tryd.prog 10 #[.slice A_a a.length c_a, .slice A_b b.length c_b, .int .i64 g] w (Ret w (.bool true)) := by
  have h_a := r_a.len
  have h_b := r_b.len
  obtain ⟨pe, hpe⟩ : ∃ x, ads[14]? = some x := ⟨_, List.getElem?_eq_getElem (by rw [hs.len]; decide)⟩
  have P0 := Lib.hid hpe
  clear hpe
  have hb : Below w.heap.size w w := Below.refl _ _
  go_enter Tryd.func10, Tryd.ntmps10
  go_wp2_with fail
  refine (alive_any w).mono ?_
  rintro e w1 ⟨rfl, hbx⟩
  replace r_a := r_a.later hbx
  replace r_b := r_b.later hbx
  replace hs := hs.later hbx
  replace hb := below_next hb hbx
  clear hbx
  go_wp2_with fail
  refine (ints_any (a) A_a c_a w1 r_a n_a (by repeat (first | omega | exact Nat.zero_le _ | apply lens_join | (rw [oneL_len]; omega)))).mono ?_
  rintro e w2 ⟨g_x, c_x, rfl, k_x, q_x, m_x, hbx⟩
  replace r_a := r_a.later hbx
  replace r_b := r_b.later hbx
  replace hs := hs.later hbx
  replace hb := below_next hb hbx
  clear hbx
  have r_x := m_x.ri h_a
  go_wp2_with fail
  refine (ints_any (b) A_b c_b w2 r_b n_b (by repeat (first | omega | exact Nat.zero_le _ | apply lens_join | (rw [oneL_len]; omega)))).mono ?_
  rintro e w3 ⟨g_y, c_y, rfl, k_y, q_y, m_y, hbx⟩
  replace r_a := r_a.later hbx
  replace r_b := r_b.later hbx
  replace r_x := r_x.later hbx
  replace hs := hs.later hbx
  replace m_x := m_x.later hbx
  replace hb := below_next hb hbx
  clear hbx
  have r_y := m_y.ri h_b
  go_wp2_with fail
  refine (tick_full a (some ⟨g_x, 0, none⟩) c_x g _ w3 (hs.var 14 _ _ rfl P0.out) r_x (by omega) (by omega) hn).mono ?_
  rintro e w4 ⟨rfl, hbx⟩
  replace r_a := r_a.later hbx
  replace r_b := r_b.later hbx
  replace r_x := r_x.later hbx
  replace r_y := r_y.later hbx
  replace hs := hs.later hbx
  replace m_x := m_x.later hbx
  replace m_y := m_y.later hbx
  replace hb := below_next hb hbx
  clear hbx
  have r_t := ri_nil w4 none
  go_wp2_with fail
  refine (rtick_full a A_a c_a g w4 r_a (by omega) (by omega) hn).mono ?_
  rintro e w' ⟨rfl, rfl⟩
  have r_w := ri_nil w4 none
  go_wp2_with fail
  have hj := at_any (a) A_a c_a g w4 r_a
  refine hj.mono ?_
  rintro e w' ⟨rfl, rfl⟩
  clear hj
  go_wp2_with fail
  have hj := sameInts_any ([]) ([]) none none 0 0 w4 r_t r_w
  rw [decide_eq_true rfl] at hj
  refine hj.mono ?_
  rintro e w5 ⟨rfl, hbx⟩
  clear hj
  replace r_a := r_a.later hbx
  replace r_b := r_b.later hbx
  replace r_x := r_x.later hbx
  replace r_y := r_y.later hbx
  replace r_t := r_t.later hbx
  replace r_w := r_w.later hbx
  replace hs := hs.later hbx
  replace m_x := m_x.later hbx
  replace m_y := m_y.later hbx
  replace hb := below_next hb hbx
  clear hbx
  clear r_t
  clear r_w
  go_wp2_with fail
  refine (num_err w5 ads hs 14 _ P0.out).mono ?_
  rintro e w6 ⟨rfl, hbx⟩
  replace r_a := r_a.later hbx
  replace r_b := r_b.later hbx
  replace r_x := r_x.later hbx
  replace r_y := r_y.later hbx
  replace hs := hs.later hbx
  replace m_x := m_x.later hbx
  replace m_y := m_y.later hbx
  replace hb := below_next hb hbx
  clear hbx
  go_wp2_with fail
  have hj := get_any (a) (some ⟨g_x, 0, none⟩) c_x g w6 r_x
  refine hj.mono ?_
  rintro e w' ⟨rfl, rfl⟩
  clear hj
  go_wp2_with fail
  refine (of_any a (some ⟨g_x, 0, none⟩) c_x g w6 r_x).mono ?_
  rintro e w7 ⟨rfl, hbx⟩
  replace r_a := r_a.later hbx
  replace r_b := r_b.later hbx
  replace r_x := r_x.later hbx
  replace r_y := r_y.later hbx
  replace hs := hs.later hbx
  replace m_x := m_x.later hbx
  replace m_y := m_y.later hbx
  replace hb := below_next hb hbx
  clear hbx
  go_wp2_with fail
  have hj := join_any (a) (b) (some ⟨g_x, 0, none⟩) (some ⟨g_y, 0, none⟩) c_x c_y w7 r_x r_y (by repeat (first | omega | exact Nat.zero_le _ | apply lens_join | (rw [oneL_len]; omega))) (by repeat (first | omega | exact Nat.zero_le _ | apply lens_join | (rw [oneL_len]; omega)))
  refine hj.mono ?_
  rintro e w8 ⟨v, rfl, ho, hbx⟩
  clear hj
  obtain ⟨A_j1, c_j1, rfl, _, r_j1⟩ := ho.ri
  clear ho
  replace r_a := r_a.later hbx
  replace r_b := r_b.later hbx
  replace r_x := r_x.later hbx
  replace r_y := r_y.later hbx
  replace hs := hs.later hbx
  replace m_x := m_x.later hbx
  replace m_y := m_y.later hbx
  replace hb := below_next hb hbx
  clear hbx
  go_wp2_with fail
  have hj := rjoin_any (a) (b) A_a A_b c_a c_b w8 r_a r_b (by repeat (first | omega | exact Nat.zero_le _ | apply lens_join | (rw [oneL_len]; omega))) (by repeat (first | omega | exact Nat.zero_le _ | apply lens_join | (rw [oneL_len]; omega)))
  refine hj.mono ?_
  rintro e w9 ⟨v, rfl, ho, hbx⟩
  clear hj
  obtain ⟨A_j2, c_j2, rfl, _, r_j2⟩ := ho.ri
  clear ho
  replace r_a := r_a.later hbx
  replace r_b := r_b.later hbx
  replace r_x := r_x.later hbx
  replace r_y := r_y.later hbx
  replace r_j1 := r_j1.later hbx
  replace hs := hs.later hbx
  replace m_x := m_x.later hbx
  replace m_y := m_y.later hbx
  replace hb := below_next hb hbx
  clear hbx
  go_wp2_with fail
  have hj := sameInts_any (joinL (a) (b)) (joinL (a) (b)) A_j1 A_j2 c_j1 c_j2 w9 r_j1 r_j2
  rw [decide_eq_true rfl] at hj
  refine hj.mono ?_
  rintro e w10 ⟨rfl, hbx⟩
  clear hj
  replace r_a := r_a.later hbx
  replace r_b := r_b.later hbx
  replace r_x := r_x.later hbx
  replace r_y := r_y.later hbx
  replace r_j1 := r_j1.later hbx
  replace r_j2 := r_j2.later hbx
  replace hs := hs.later hbx
  replace m_x := m_x.later hbx
  replace m_y := m_y.later hbx
  replace hb := below_next hb hbx
  clear hbx
  clear r_j1
  clear r_j2
  go_wp2_with fail
  have hj := short_any (a) (some ⟨g_x, 0, none⟩) c_x w10 r_x (by repeat (first | omega | exact Nat.zero_le _ | apply lens_join | (rw [oneL_len]; omega)))
  refine hj.mono ?_
  rintro e w11 ⟨v, rfl, ho, hbx⟩
  clear hj
  obtain ⟨A_s1, c_s1, rfl, _, r_s1⟩ := ho.ri
  clear ho
  replace r_a := r_a.later hbx
  replace r_b := r_b.later hbx
  replace r_x := r_x.later hbx
  replace r_y := r_y.later hbx
  replace hs := hs.later hbx
  replace m_x := m_x.later hbx
  replace m_y := m_y.later hbx
  replace hb := below_next hb hbx
  clear hbx
  go_wp2_with fail
  have hj := rshort_any (a) A_a c_a w11 r_a (by repeat (first | omega | exact Nat.zero_le _ | apply lens_join | (rw [oneL_len]; omega)))
  refine hj.mono ?_
  rintro e w12 ⟨v, rfl, ho, hbx⟩
  clear hj
  obtain ⟨A_s2, c_s2, rfl, _, r_s2⟩ := ho.ri
  clear ho
  replace r_a := r_a.later hbx
  replace r_b := r_b.later hbx
  replace r_x := r_x.later hbx
  replace r_y := r_y.later hbx
  replace r_s1 := r_s1.later hbx
  replace hs := hs.later hbx
  replace m_x := m_x.later hbx
  replace m_y := m_y.later hbx
  replace hb := below_next hb hbx
  clear hbx
  go_wp2_with fail
  have hj := sameInts_any (joinL (a) ([])) (joinL (a) ([])) A_s1 A_s2 c_s1 c_s2 w12 r_s1 r_s2
  rw [decide_eq_true rfl] at hj
  refine hj.mono ?_
  rintro e w13 ⟨rfl, hbx⟩
  clear hj
  replace r_a := r_a.later hbx
  replace r_b := r_b.later hbx
  replace r_x := r_x.later hbx
  replace r_y := r_y.later hbx
  replace r_s1 := r_s1.later hbx
  replace r_s2 := r_s2.later hbx
  replace hs := hs.later hbx
  replace m_x := m_x.later hbx
  replace m_y := m_y.later hbx
  replace hb := below_next hb hbx
  clear hbx
  clear r_s1
  clear r_s2
  go_wp2_with fail
  have hj := atMost_any (a) (b) (some ⟨g_x, 0, none⟩) (some ⟨g_y, 0, none⟩) c_x c_y w13 r_x r_y (by repeat (first | omega | exact Nat.zero_le _ | apply lens_join | (rw [oneL_len]; omega))) (by repeat (first | omega | exact Nat.zero_le _ | apply lens_join | (rw [oneL_len]; omega)))
  rw [hp0.out] at hj
  refine hj.mono ?_
  rintro e w14 ⟨rfl, hbx⟩
  clear hj
  replace r_a := r_a.later hbx
  replace r_b := r_b.later hbx
  replace r_x := r_x.later hbx
  replace r_y := r_y.later hbx
  replace hs := hs.later hbx
  replace m_x := m_x.later hbx
  replace m_y := m_y.later hbx
  replace hb := below_next hb hbx
  clear hbx
  go_wp2_with fail
  have hj := leq_any (a) (b) A_a A_b c_a c_b w14 r_a r_b (by repeat (first | omega | exact Nat.zero_le _ | apply lens_join | (rw [oneL_len]; omega))) (by repeat (first | omega | exact Nat.zero_le _ | apply lens_join | (rw [oneL_len]; omega)))
  rw [hp0.out] at hj
  refine hj.mono ?_
  rintro e w' ⟨rfl, rfl⟩
  clear hj
  go_wp2_with fail
  have hj := same_any (a) (b) (some ⟨g_x, 0, none⟩) (some ⟨g_y, 0, none⟩) c_x c_y w14 r_x r_y (by repeat (first | omega | exact Nat.zero_le _ | apply lens_join | (rw [oneL_len]; omega))) (by repeat (first | omega | exact Nat.zero_le _ | apply lens_join | (rw [oneL_len]; omega)))
  rw [(show (atMost a b && atMost b a) = false by rw [hp0.out, hq0.out]; rfl)] at hj
  refine hj.mono ?_
  rintro e w15 ⟨rfl, hbx⟩
  clear hj
  replace r_a := r_a.later hbx
  replace r_b := r_b.later hbx
  replace r_x := r_x.later hbx
  replace r_y := r_y.later hbx
  replace hs := hs.later hbx
  replace m_x := m_x.later hbx
  replace m_y := m_y.later hbx
  replace hb := below_next hb hbx
  clear hbx
  go_wp2_with fail
  have hj := leq_any (a) (b) A_a A_b c_a c_b w15 r_a r_b (by repeat (first | omega | exact Nat.zero_le _ | apply lens_join | (rw [oneL_len]; omega))) (by repeat (first | omega | exact Nat.zero_le _ | apply lens_join | (rw [oneL_len]; omega)))
  rw [hp0.out] at hj
  refine hj.mono ?_
  rintro e w' ⟨rfl, rfl⟩
  clear hj
  go_wp2_with fail
  have hj := apart_any (a) (b) (some ⟨g_x, 0, none⟩) (some ⟨g_y, 0, none⟩) c_x c_y w15 r_x r_y (by repeat (first | omega | exact Nat.zero_le _ | apply lens_join | (rw [oneL_len]; omega))) (by repeat (first | omega | exact Nat.zero_le _ | apply lens_join | (rw [oneL_len]; omega)))
  rw [(show (!atMost a b && !atMost b a) = true by rw [hp0.out, hq0.out]; rfl)] at hj
  refine hj.mono ?_
  rintro e w16 ⟨rfl, hbx⟩
  clear hj
  replace r_a := r_a.later hbx
  replace r_b := r_b.later hbx
  replace r_x := r_x.later hbx
  replace r_y := r_y.later hbx
  replace hs := hs.later hbx
  replace m_x := m_x.later hbx
  replace m_y := m_y.later hbx
  replace hb := below_next hb hbx
  clear hbx
  go_wp2_with fail
  have hj := leq_any (a) (b) A_a A_b c_a c_b w16 r_a r_b (by repeat (first | omega | exact Nat.zero_le _ | apply lens_join | (rw [oneL_len]; omega))) (by repeat (first | omega | exact Nat.zero_le _ | apply lens_join | (rw [oneL_len]; omega)))
  rw [hp0.out] at hj
  refine hj.mono ?_
  rintro e w' ⟨rfl, rfl⟩
  clear hj
  go_wp2_with fail
  have hj := leq_any (b) (a) A_b A_a c_b c_a w16 r_b r_a (by repeat (first | omega | exact Nat.zero_le _ | apply lens_join | (rw [oneL_len]; omega))) (by repeat (first | omega | exact Nat.zero_le _ | apply lens_join | (rw [oneL_len]; omega)))
  rw [hq0.out] at hj
  refine hj.mono ?_
  rintro e w' ⟨rfl, rfl⟩
  clear hj
  go_wp2_with fail
  refine (kept_any a g_x c_x A_a c_a w16 m_x r_a (by repeat (first | omega | exact Nat.zero_le _ | apply lens_join | (rw [oneL_len]; omega))) k_x q_x).mono ?_
  rintro e w17 ⟨rfl, hbx⟩
  replace r_a := r_a.later hbx
  replace r_b := r_b.later hbx
  replace r_x := r_x.later hbx
  replace r_y := r_y.later hbx
  replace hs := hs.later hbx
  replace m_x := m_x.later hbx
  replace m_y := m_y.later hbx
  replace hb := below_next hb hbx
  clear hbx
  go_wp2_with fail
  refine (kept_any b g_y c_y A_b c_b w17 m_y r_b (by repeat (first | omega | exact Nat.zero_le _ | apply lens_join | (rw [oneL_len]; omega))) k_y q_y).mono ?_
  rintro e w18 ⟨rfl, hbx⟩
  replace r_a := r_a.later hbx
  replace r_b := r_b.later hbx
  replace r_x := r_x.later hbx
  replace r_y := r_y.later hbx
  replace hs := hs.later hbx
  replace m_x := m_x.later hbx
  replace m_y := m_y.later hbx
  replace hb := below_next hb hbx
  clear hbx
  go_wp2_with fail
  go_ret
  exact ⟨rfl, hb⟩
set_option maxHeartbeats 4000000 in
theorem tells_full_01 (a : List Int) (b : List Int) (A_a : Option Addr) (A_b : Option Addr) (c_a : Nat) (c_b : Nat) (w : World) (r_a : RI w A_a a) (r_b : RI w A_b b) (l_a : a.length ≤ 2000) (l_b : b.length ≤ 2000) (n_a : A_a = none → c_a = 0) (n_b : A_b = none → c_b = 0) (ads : List Addr) (hs : Sent w 62 errGs ads) (hp0 : Hid (atMost a b = false)) (hq0 : Hid (atMost b a = true)) (g : Int) (hg : 0 ≤ g) (hg8 : g < 8) (hn : 65536 ≤ getL a g) :
    Calls Tryd.prog 10 #[.slice A_a a.length c_a, .slice A_b b.length c_b, .int .i64 g] w (Ret w (.bool true)) := by
  have h_a := r_a.len
  have h_b := r_b.len
  obtain ⟨pe, hpe⟩ : ∃ x, ads[14]? = some x := ⟨_, List.getElem?_eq_getElem (by rw [hs.len]; decide)⟩
  have P0 := Lib.hid hpe
  clear hpe
  have hb : Below w.heap.size w w := Below.refl _ _
  go_enter Tryd.func10, Tryd.ntmps10
  go_wp2_with fail
  refine (alive_any w).mono ?_
  rintro e w1 ⟨rfl, hbx⟩
  replace r_a := r_a.later hbx
  replace r_b := r_b.later hbx
  replace hs := hs.later hbx
  replace hb := below_next hb hbx
  clear hbx
  go_wp2_with fail
  refine (ints_any (a) A_a c_a w1 r_a n_a (by repeat (first | omega | exact Nat.zero_le _ | apply lens_join | (rw [oneL_len]; omega)))).mono ?_
  rintro e w2 ⟨g_x, c_x, rfl, k_x, q_x, m_x, hbx⟩
  replace r_a := r_a.later hbx
  replace r_b := r_b.later hbx
  replace hs := hs.later hbx
  replace hb := below_next hb hbx
  clear hbx
  have r_x := m_x.ri h_a
  go_wp2_with fail
  refine (ints_any (b) A_b c_b w2 r_b n_b (by repeat (first | omega | exact Nat.zero_le _ | apply lens_join | (rw [oneL_len]; omega)))).mono ?_
  rintro e w3 ⟨g_y, c_y, rfl, k_y, q_y, m_y, hbx⟩
  replace r_a := r_a.later hbx
  replace r_b := r_b.later hbx
  replace r_x := r_x.later hbx
  replace hs := hs.later hbx
  replace m_x := m_x.later hbx
  replace hb := below_next hb hbx
  clear hbx
  have r_y := m_y.ri h_b
  go_wp2_with fail
  refine (tick_full a (some ⟨g_x, 0, none⟩) c_x g _ w3 (hs.var 14 _ _ rfl P0.out) r_x (by omega) (by omega) hn).mono ?_
  rintro e w4 ⟨rfl, hbx⟩
  replace r_a := r_a.later hbx
  replace r_b := r_b.later hbx
  replace r_x := r_x.later hbx
  replace r_y := r_y.later hbx
  replace hs := hs.later hbx
  replace m_x := m_x.later hbx
  replace m_y := m_y.later hbx
  replace hb := below_next hb hbx
  clear hbx
  have r_t := ri_nil w4 none
  go_wp2_with fail
  refine (rtick_full a A_a c_a g w4 r_a (by omega) (by omega) hn).mono ?_
  rintro e w' ⟨rfl, rfl⟩
  have r_w := ri_nil w4 none
  go_wp2_with fail
  have hj := at_any (a) A_a c_a g w4 r_a
  refine hj.mono ?_
  rintro e w' ⟨rfl, rfl⟩
  clear hj
  go_wp2_with fail
  have hj := sameInts_any ([]) ([]) none none 0 0 w4 r_t r_w
  rw [decide_eq_true rfl] at hj
  refine hj.mono ?_
  rintro e w5 ⟨rfl, hbx⟩
  clear hj
  replace r_a := r_a.later hbx
  replace r_b := r_b.later hbx
  replace r_x := r_x.later hbx
  replace r_y := r_y.later hbx
  replace r_t := r_t.later hbx
  replace r_w := r_w.later hbx
  replace hs := hs.later hbx
  replace m_x := m_x.later hbx
  replace m_y := m_y.later hbx
  replace hb := below_next hb hbx
  clear hbx
  clear r_t
  clear r_w
  go_wp2_with fail
  refine (num_err w5 ads hs 14 _ P0.out).mono ?_
  rintro e w6 ⟨rfl, hbx⟩
  replace r_a := r_a.later hbx
  replace r_b := r_b.later hbx
  replace r_x := r_x.later hbx
  replace r_y := r_y.later hbx
  replace hs := hs.later hbx
  replace m_x := m_x.later hbx
  replace m_y := m_y.later hbx
  replace hb := below_next hb hbx
  clear hbx
  go_wp2_with fail
  have hj := get_any (a) (some ⟨g_x, 0, none⟩) c_x g w6 r_x
  refine hj.mono ?_
  rintro e w' ⟨rfl, rfl⟩
  clear hj
  go_wp2_with fail
  refine (of_any a (some ⟨g_x, 0, none⟩) c_x g w6 r_x).mono ?_
  rintro e w7 ⟨rfl, hbx⟩
  replace r_a := r_a.later hbx
  replace r_b := r_b.later hbx
  replace r_x := r_x.later hbx
  replace r_y := r_y.later hbx
  replace hs := hs.later hbx
  replace m_x := m_x.later hbx
  replace m_y := m_y.later hbx
  replace hb := below_next hb hbx
  clear hbx
  go_wp2_with fail
  have hj := join_any (a) (b) (some ⟨g_x, 0, none⟩) (some ⟨g_y, 0, none⟩) c_x c_y w7 r_x r_y (by repeat (first | omega | exact Nat.zero_le _ | apply lens_join | (rw [oneL_len]; omega))) (by repeat (first | omega | exact Nat.zero_le _ | apply lens_join | (rw [oneL_len]; omega)))
  refine hj.mono ?_
  rintro e w8 ⟨v, rfl, ho, hbx⟩
  clear hj
  obtain ⟨A_j1, c_j1, rfl, _, r_j1⟩ := ho.ri
  clear ho
  replace r_a := r_a.later hbx
  replace r_b := r_b.later hbx
  replace r_x := r_x.later hbx
  replace r_y := r_y.later hbx
  replace hs := hs.later hbx
  replace m_x := m_x.later hbx
  replace m_y := m_y.later hbx
  replace hb := below_next hb hbx
  clear hbx
  go_wp2_with fail
  have hj := rjoin_any (a) (b) A_a A_b c_a c_b w8 r_a r_b (by repeat (first | omega | exact Nat.zero_le _ | apply lens_join | (rw [oneL_len]; omega))) (by repeat (first | omega | exact Nat.zero_le _ | apply lens_join | (rw [oneL_len]; omega)))
  refine hj.mono ?_
  rintro e w9 ⟨v, rfl, ho, hbx⟩
  clear hj
  obtain ⟨A_j2, c_j2, rfl, _, r_j2⟩ := ho.ri
  clear ho
  replace r_a := r_a.later hbx
  replace r_b := r_b.later hbx
  replace r_x := r_x.later hbx
  replace r_y := r_y.later hbx
  replace r_j1 := r_j1.later hbx
  replace hs := hs.later hbx
  replace m_x := m_x.later hbx
  replace m_y := m_y.later hbx
  replace hb := below_next hb hbx
  clear hbx
  go_wp2_with fail
  have hj := sameInts_any (joinL (a) (b)) (joinL (a) (b)) A_j1 A_j2 c_j1 c_j2 w9 r_j1 r_j2
  rw [decide_eq_true rfl] at hj
  refine hj.mono ?_
  rintro e w10 ⟨rfl, hbx⟩
  clear hj
  replace r_a := r_a.later hbx
  replace r_b := r_b.later hbx
  replace r_x := r_x.later hbx
  replace r_y := r_y.later hbx
  replace r_j1 := r_j1.later hbx
  replace r_j2 := r_j2.later hbx
  replace hs := hs.later hbx
  replace m_x := m_x.later hbx
  replace m_y := m_y.later hbx
  replace hb := below_next hb hbx
  clear hbx
  clear r_j1
  clear r_j2
  go_wp2_with fail
  have hj := short_any (a) (some ⟨g_x, 0, none⟩) c_x w10 r_x (by repeat (first | omega | exact Nat.zero_le _ | apply lens_join | (rw [oneL_len]; omega)))
  refine hj.mono ?_
  rintro e w11 ⟨v, rfl, ho, hbx⟩
  clear hj
  obtain ⟨A_s1, c_s1, rfl, _, r_s1⟩ := ho.ri
  clear ho
  replace r_a := r_a.later hbx
  replace r_b := r_b.later hbx
  replace r_x := r_x.later hbx
  replace r_y := r_y.later hbx
  replace hs := hs.later hbx
  replace m_x := m_x.later hbx
  replace m_y := m_y.later hbx
  replace hb := below_next hb hbx
  clear hbx
  go_wp2_with fail
  have hj := rshort_any (a) A_a c_a w11 r_a (by repeat (first | omega | exact Nat.zero_le _ | apply lens_join | (rw [oneL_len]; omega)))
  refine hj.mono ?_
  rintro e w12 ⟨v, rfl, ho, hbx⟩
  clear hj
  obtain ⟨A_s2, c_s2, rfl, _, r_s2⟩ := ho.ri
  clear ho
  replace r_a := r_a.later hbx
  replace r_b := r_b.later hbx
  replace r_x := r_x.later hbx
  replace r_y := r_y.later hbx
  replace r_s1 := r_s1.later hbx
  replace hs := hs.later hbx
  replace m_x := m_x.later hbx
  replace m_y := m_y.later hbx
  replace hb := below_next hb hbx
  clear hbx
  go_wp2_with fail
  have hj := sameInts_any (joinL (a) ([])) (joinL (a) ([])) A_s1 A_s2 c_s1 c_s2 w12 r_s1 r_s2
  rw [decide_eq_true rfl] at hj
  refine hj.mono ?_
  rintro e w13 ⟨rfl, hbx⟩
  clear hj
  replace r_a := r_a.later hbx
  replace r_b := r_b.later hbx
  replace r_x := r_x.later hbx
  replace r_y := r_y.later hbx
  replace r_s1 := r_s1.later hbx
  replace r_s2 := r_s2.later hbx
  replace hs := hs.later hbx
  replace m_x := m_x.later hbx
  replace m_y := m_y.later hbx
  replace hb := below_next hb hbx
  clear hbx
  clear r_s1
  clear r_s2
  go_wp2_with fail
  have hj := atMost_any (a) (b) (some ⟨g_x, 0, none⟩) (some ⟨g_y, 0, none⟩) c_x c_y w13 r_x r_y (by repeat (first | omega | exact Nat.zero_le _ | apply lens_join | (rw [oneL_len]; omega))) (by repeat (first | omega | exact Nat.zero_le _ | apply lens_join | (rw [oneL_len]; omega)))
  rw [hp0.out] at hj
  refine hj.mono ?_
  rintro e w14 ⟨rfl, hbx⟩
  clear hj
  replace r_a := r_a.later hbx
  replace r_b := r_b.later hbx
  replace r_x := r_x.later hbx
  replace r_y := r_y.later hbx
  replace hs := hs.later hbx
  replace m_x := m_x.later hbx
  replace m_y := m_y.later hbx
  replace hb := below_next hb hbx
  clear hbx
  go_wp2_with fail
  have hj := leq_any (a) (b) A_a A_b c_a c_b w14 r_a r_b (by repeat (first | omega | exact Nat.zero_le _ | apply lens_join | (rw [oneL_len]; omega))) (by repeat (first | omega | exact Nat.zero_le _ | apply lens_join | (rw [oneL_len]; omega)))
  rw [hp0.out] at hj
  refine hj.mono ?_
  rintro e w' ⟨rfl, rfl⟩
  clear hj
  go_wp2_with fail
  have hj := same_any (a) (b) (some ⟨g_x, 0, none⟩) (some ⟨g_y, 0, none⟩) c_x c_y w14 r_x r_y (by repeat (first | omega | exact Nat.zero_le _ | apply lens_join | (rw [oneL_len]; omega))) (by repeat (first | omega | exact Nat.zero_le _ | apply lens_join | (rw [oneL_len]; omega)))
  rw [(show (atMost a b && atMost b a) = false by rw [hp0.out, hq0.out]; rfl)] at hj
  refine hj.mono ?_
  rintro e w15 ⟨rfl, hbx⟩
  clear hj
  replace r_a := r_a.later hbx
  replace r_b := r_b.later hbx
  replace r_x := r_x.later hbx
  replace r_y := r_y.later hbx
  replace hs := hs.later hbx
  replace m_x := m_x.later hbx
  replace m_y := m_y.later hbx
  replace hb := below_next hb hbx
  clear hbx
  go_wp2_with fail
  have hj := leq_any (a) (b) A_a A_b c_a c_b w15 r_a r_b (by repeat (first | omega | exact Nat.zero_le _ | apply lens_join | (rw [oneL_len]; omega))) (by repeat (first | omega | exact Nat.zero_le _ | apply lens_join | (rw [oneL_len]; omega)))
  rw [hp0.out] at hj
  refine hj.mono ?_
  rintro e w' ⟨rfl, rfl⟩
  clear hj
  go_wp2_with fail
  have hj := apart_any (a) (b) (some ⟨g_x, 0, none⟩) (some ⟨g_y, 0, none⟩) c_x c_y w15 r_x r_y (by repeat (first | omega | exact Nat.zero_le _ | apply lens_join | (rw [oneL_len]; omega))) (by repeat (first | omega | exact Nat.zero_le _ | apply lens_join | (rw [oneL_len]; omega)))
  rw [(show (!atMost a b && !atMost b a) = false by rw [hp0.out, hq0.out]; rfl)] at hj
  refine hj.mono ?_
  rintro e w16 ⟨rfl, hbx⟩
  clear hj
  replace r_a := r_a.later hbx
  replace r_b := r_b.later hbx
  replace r_x := r_x.later hbx
  replace r_y := r_y.later hbx
  replace hs := hs.later hbx
  replace m_x := m_x.later hbx
  replace m_y := m_y.later hbx
  replace hb := below_next hb hbx
  clear hbx
  go_wp2_with fail
  have hj := leq_any (a) (b) A_a A_b c_a c_b w16 r_a r_b (by repeat (first | omega | exact Nat.zero_le _ | apply lens_join | (rw [oneL_len]; omega))) (by repeat (first | omega | exact Nat.zero_le _ | apply lens_join | (rw [oneL_len]; omega)))
  rw [hp0.out] at hj
  refine hj.mono ?_
  rintro e w' ⟨rfl, rfl⟩
  clear hj
  go_wp2_with fail
  have hj := leq_any (b) (a) A_b A_a c_b c_a w16 r_b r_a (by repeat (first | omega | exact Nat.zero_le _ | apply lens_join | (rw [oneL_len]; omega))) (by repeat (first | omega | exact Nat.zero_le _ | apply lens_join | (rw [oneL_len]; omega)))
  rw [hq0.out] at hj
  refine hj.mono ?_
  rintro e w' ⟨rfl, rfl⟩
  clear hj
  go_wp2_with fail
  refine (kept_any a g_x c_x A_a c_a w16 m_x r_a (by repeat (first | omega | exact Nat.zero_le _ | apply lens_join | (rw [oneL_len]; omega))) k_x q_x).mono ?_
  rintro e w17 ⟨rfl, hbx⟩
  replace r_a := r_a.later hbx
  replace r_b := r_b.later hbx
  replace r_x := r_x.later hbx
  replace r_y := r_y.later hbx
  replace hs := hs.later hbx
  replace m_x := m_x.later hbx
  replace m_y := m_y.later hbx
  replace hb := below_next hb hbx
  clear hbx
  go_wp2_with fail
  refine (kept_any b g_y c_y A_b c_b w17 m_y r_b (by repeat (first | omega | exact Nat.zero_le _ | apply lens_join | (rw [oneL_len]; omega))) k_y q_y).mono ?_
  rintro e w18 ⟨rfl, hbx⟩
  replace r_a := r_a.later hbx
  replace r_b := r_b.later hbx
  replace r_x := r_x.later hbx
  replace r_y := r_y.later hbx
  replace hs := hs.later hbx
  replace m_x := m_x.later hbx
  replace m_y := m_y.later hbx
  replace hb := below_next hb hbx
  clear hbx
  go_wp2_with fail
  go_ret
  exact ⟨rfl, hb⟩
set_option maxHeartbeats 4000000 in
theorem tells_full_10 (a : List Int) (b : List Int) (A_a : Option Addr) (A_b : Option Addr) (c_a : Nat) (c_b : Nat) (w : World) (r_a : RI w A_a a) (r_b : RI w A_b b) (l_a : a.length ≤ 2000) (l_b : b.length ≤ 2000) (n_a : A_a = none → c_a = 0) (n_b : A_b = none → c_b = 0) (ads : List Addr) (hs : Sent w 62 errGs ads) (hp0 : Hid (atMost a b = true)) (hq0 : Hid (atMost b a = false)) (g : Int) (hg : 0 ≤ g) (hg8 : g < 8) (hn : 65536 ≤ getL a g) :
    Calls Tryd.prog 10 #[.slice A_a a.length c_a, .slice A_b b.length c_b, .int .i64 g] w (Ret w (.bool true)) := by
  have h_a := r_a.len
  have h_b := r_b.len
  obtain ⟨pe, hpe⟩ : ∃ x, ads[14]? = some x := ⟨_, List.getElem?_eq_getElem (by rw [hs.len]; decide)⟩
  have P0 := Lib.hid hpe
  clear hpe
  have hb : Below w.heap.size w w := Below.refl _ _
  go_enter Tryd.func10, Tryd.ntmps10
  go_wp2_with fail
  refine (alive_any w).mono ?_
  rintro e w1 ⟨rfl, hbx⟩
  replace r_a := r_a.later hbx
  replace r_b := r_b.later hbx
  replace hs := hs.later hbx
  replace hb := below_next hb hbx
  clear hbx
  go_wp2_with fail
  refine (ints_any (a) A_a c_a w1 r_a n_a (by repeat (first | omega | exact Nat.zero_le _ | apply lens_join | (rw [oneL_len]; omega)))).mono ?_
  rintro e w2 ⟨g_x, c_x, rfl, k_x, q_x, m_x, hbx⟩
  replace r_a := r_a.later hbx
  replace r_b := r_b.later hbx
  replace hs := hs.later hbx
  replace hb := below_next hb hbx
  clear hbx
  have r_x := m_x.ri h_a
  go_wp2_with fail
  refine (ints_any (b) A_b c_b w2 r_b n_b (by repeat (first | omega | exact Nat.zero_le _ | apply lens_join | (rw [oneL_len]; omega)))).mono ?_
  rintro e w3 ⟨g_y, c_y, rfl, k_y, q_y, m_y, hbx⟩
  replace r_a := r_a.later hbx
  replace r_b := r_b.later hbx
  replace r_x := r_x.later hbx
  replace hs := hs.later hbx
  replace m_x := m_x.later hbx
  replace hb := below_next hb hbx
  clear hbx
  have r_y := m_y.ri h_b
  go_wp2_with fail
  refine (tick_full a (some ⟨g_x, 0, none⟩) c_x g _ w3 (hs.var 14 _ _ rfl P0.out) r_x (by omega) (by omega) hn).mono ?_
  rintro e w4 ⟨rfl, hbx⟩
  replace r_a := r_a.later hbx
  replace r_b := r_b.later hbx
  replace r_x := r_x.later hbx
  replace r_y := r_y.later hbx
  replace hs := hs.later hbx
  replace m_x := m_x.later hbx
  replace m_y := m_y.later hbx
  replace hb := below_next hb hbx
  clear hbx
  have r_t := ri_nil w4 none
  go_wp2_with fail
  refine (rtick_full a A_a c_a g w4 r_a (by omega) (by omega) hn).mono ?_
  rintro e w' ⟨rfl, rfl⟩
  have r_w := ri_nil w4 none
  go_wp2_with fail
  have hj := at_any (a) A_a c_a g w4 r_a
  refine hj.mono ?_
  rintro e w' ⟨rfl, rfl⟩
  clear hj
  go_wp2_with fail
  have hj := sameInts_any ([]) ([]) none none 0 0 w4 r_t r_w
  rw [decide_eq_true rfl] at hj
  refine hj.mono ?_
  rintro e w5 ⟨rfl, hbx⟩
  clear hj
  replace r_a := r_a.later hbx
  replace r_b := r_b.later hbx
  replace r_x := r_x.later hbx
  replace r_y := r_y.later hbx
  replace r_t := r_t.later hbx
  replace r_w := r_w.later hbx
  replace hs := hs.later hbx
  replace m_x := m_x.later hbx
  replace m_y := m_y.later hbx
  replace hb := below_next hb hbx
  clear hbx
  clear r_t
  clear r_w
  go_wp2_with fail
  refine (num_err w5 ads hs 14 _ P0.out).mono ?_
  rintro e w6 ⟨rfl, hbx⟩
  replace r_a := r_a.later hbx
  replace r_b := r_b.later hbx
  replace r_x := r_x.later hbx
  replace r_y := r_y.later hbx
  replace hs := hs.later hbx
  replace m_x := m_x.later hbx
  replace m_y := m_y.later hbx
  replace hb := below_next hb hbx
  clear hbx
  go_wp2_with fail
  have hj := get_any (a) (some ⟨g_x, 0, none⟩) c_x g w6 r_x
  refine hj.mono ?_
  rintro e w' ⟨rfl, rfl⟩
  clear hj
  go_wp2_with fail
  refine (of_any a (some ⟨g_x, 0, none⟩) c_x g w6 r_x).mono ?_
  rintro e w7 ⟨rfl, hbx⟩
  replace r_a := r_a.later hbx
  replace r_b := r_b.later hbx
  replace r_x := r_x.later hbx
  replace r_y := r_y.later hbx
  replace hs := hs.later hbx
  replace m_x := m_x.later hbx
  replace m_y := m_y.later hbx
  replace hb := below_next hb hbx
  clear hbx
  go_wp2_with fail
  have hj := join_any (a) (b) (some ⟨g_x, 0, none⟩) (some ⟨g_y, 0, none⟩) c_x c_y w7 r_x r_y (by repeat (first | omega | exact Nat.zero_le _ | apply lens_join | (rw [oneL_len]; omega))) (by repeat (first | omega | exact Nat.zero_le _ | apply lens_join | (rw [oneL_len]; omega)))
  refine hj.mono ?_
  rintro e w8 ⟨v, rfl, ho, hbx⟩
  clear hj
  obtain ⟨A_j1, c_j1, rfl, _, r_j1⟩ := ho.ri
  clear ho
  replace r_a := r_a.later hbx
  replace r_b := r_b.later hbx
  replace r_x := r_x.later hbx
  replace r_y := r_y.later hbx
  replace hs := hs.later hbx
  replace m_x := m_x.later hbx
  replace m_y := m_y.later hbx
  replace hb := below_next hb hbx
  clear hbx
  go_wp2_with fail
  have hj := rjoin_any (a) (b) A_a A_b c_a c_b w8 r_a r_b (by repeat (first | omega | exact Nat.zero_le _ | apply lens_join | (rw [oneL_len]; omega))) (by repeat (first | omega | exact Nat.zero_le _ | apply lens_join | (rw [oneL_len]; omega)))
  refine hj.mono ?_
  rintro e w9 ⟨v, rfl, ho, hbx⟩
  clear hj
  obtain ⟨A_j2, c_j2, rfl, _, r_j2⟩ := ho.ri
  clear ho
  replace r_a := r_a.later hbx
  replace r_b := r_b.later hbx
  replace r_x := r_x.later hbx
  replace r_y := r_y.later hbx
  replace r_j1 := r_j1.later hbx
  replace hs := hs.later hbx
  replace m_x := m_x.later hbx
  replace m_y := m_y.later hbx
  replace hb := below_next hb hbx
  clear hbx
  go_wp2_with fail
  have hj := sameInts_any (joinL (a) (b)) (joinL (a) (b)) A_j1 A_j2 c_j1 c_j2 w9 r_j1 r_j2
  rw [decide_eq_true rfl] at hj
  refine hj.mono ?_
  rintro e w10 ⟨rfl, hbx⟩
  clear hj
  replace r_a := r_a.later hbx
  replace r_b := r_b.later hbx
  replace r_x := r_x.later hbx
  replace r_y := r_y.later hbx
  replace r_j1 := r_j1.later hbx
  replace r_j2 := r_j2.later hbx
  replace hs := hs.later hbx
  replace m_x := m_x.later hbx
  replace m_y := m_y.later hbx
  replace hb := below_next hb hbx
  clear hbx
  clear r_j1
  clear r_j2
  go_wp2_with fail
  have hj := short_any (a) (some ⟨g_x, 0, none⟩) c_x w10 r_x (by repeat (first | omega | exact Nat.zero_le _ | apply lens_join | (rw [oneL_len]; omega)))
  refine hj.mono ?_
  rintro e w11 ⟨v, rfl, ho, hbx⟩
  clear hj
  obtain ⟨A_s1, c_s1, rfl, _, r_s1⟩ := ho.ri
  clear ho
  replace r_a := r_a.later hbx
  replace r_b := r_b.later hbx
  replace r_x := r_x.later hbx
  replace r_y := r_y.later hbx
  replace hs := hs.later hbx
  replace m_x := m_x.later hbx
  replace m_y := m_y.later hbx
  replace hb := below_next hb hbx
  clear hbx
  go_wp2_with fail
  have hj := rshort_any (a) A_a c_a w11 r_a (by repeat (first | omega | exact Nat.zero_le _ | apply lens_join | (rw [oneL_len]; omega)))
  refine hj.mono ?_
  rintro e w12 ⟨v, rfl, ho, hbx⟩
  clear hj
  obtain ⟨A_s2, c_s2, rfl, _, r_s2⟩ := ho.ri
  clear ho
  replace r_a := r_a.later hbx
  replace r_b := r_b.later hbx
  replace r_x := r_x.later hbx
  replace r_y := r_y.later hbx
  replace r_s1 := r_s1.later hbx
  replace hs := hs.later hbx
  replace m_x := m_x.later hbx
  replace m_y := m_y.later hbx
  replace hb := below_next hb hbx
  clear hbx
  go_wp2_with fail
  have hj := sameInts_any (joinL (a) ([])) (joinL (a) ([])) A_s1 A_s2 c_s1 c_s2 w12 r_s1 r_s2
  rw [decide_eq_true rfl] at hj
  refine hj.mono ?_
  rintro e w13 ⟨rfl, hbx⟩
  clear hj
  replace r_a := r_a.later hbx
  replace r_b := r_b.later hbx
  replace r_x := r_x.later hbx
  replace r_y := r_y.later hbx
  replace r_s1 := r_s1.later hbx
  replace r_s2 := r_s2.later hbx
  replace hs := hs.later hbx
  replace m_x := m_x.later hbx
  replace m_y := m_y.later hbx
  replace hb := below_next hb hbx
  clear hbx
  clear r_s1
  clear r_s2
  go_wp2_with fail
  have hj := atMost_any (a) (b) (some ⟨g_x, 0, none⟩) (some ⟨g_y, 0, none⟩) c_x c_y w13 r_x r_y (by repeat (first | omega | exact Nat.zero_le _ | apply lens_join | (rw [oneL_len]; omega))) (by repeat (first | omega | exact Nat.zero_le _ | apply lens_join | (rw [oneL_len]; omega)))
  rw [hp0.out] at hj
  refine hj.mono ?_
  rintro e w14 ⟨rfl, hbx⟩
  clear hj
  replace r_a := r_a.later hbx
  replace r_b := r_b.later hbx
  replace r_x := r_x.later hbx
  replace r_y := r_y.later hbx
  replace hs := hs.later hbx
  replace m_x := m_x.later hbx
  replace m_y := m_y.later hbx
  replace hb := below_next hb hbx
  clear hbx
  go_wp2_with fail
  have hj := leq_any (a) (b) A_a A_b c_a c_b w14 r_a r_b (by repeat (first | omega | exact Nat.zero_le _ | apply lens_join | (rw [oneL_len]; omega))) (by repeat (first | omega | exact Nat.zero_le _ | apply lens_join | (rw [oneL_len]; omega)))
  rw [hp0.out] at hj
  refine hj.mono ?_
  rintro e w' ⟨rfl, rfl⟩
  clear hj
  go_wp2_with fail
  have hj := same_any (a) (b) (some ⟨g_x, 0, none⟩) (some ⟨g_y, 0, none⟩) c_x c_y w14 r_x r_y (by repeat (first | omega | exact Nat.zero_le _ | apply lens_join | (rw [oneL_len]; omega))) (by repeat (first | omega | exact Nat.zero_le _ | apply lens_join | (rw [oneL_len]; omega)))
  rw [(show (atMost a b && atMost b a) = false by rw [hp0.out, hq0.out]; rfl)] at hj
  refine hj.mono ?_
  rintro e w15 ⟨rfl, hbx⟩
  clear hj
  replace r_a := r_a.later hbx
  replace r_b := r_b.later hbx
  replace r_x := r_x.later hbx
  replace r_y := r_y.later hbx
  replace hs := hs.later hbx
  replace m_x := m_x.later hbx
  replace m_y := m_y.later hbx
  replace hb := below_next hb hbx
  clear hbx
  go_wp2_with fail
  have hj := leq_any (a) (b) A_a A_b c_a c_b w15 r_a r_b (by repeat (first | omega | exact Nat.zero_le _ | apply lens_join | (rw [oneL_len]; omega))) (by repeat (first | omega | exact Nat.zero_le _ | apply lens_join | (rw [oneL_len]; omega)))
  rw [hp0.out] at hj
  refine hj.mono ?_
  rintro e w' ⟨rfl, rfl⟩
  clear hj
  go_wp2_with fail
  have hj := leq_any (b) (a) A_b A_a c_b c_a w15 r_b r_a (by repeat (first | omega | exact Nat.zero_le _ | apply lens_join | (rw [oneL_len]; omega))) (by repeat (first | omega | exact Nat.zero_le _ | apply lens_join | (rw [oneL_len]; omega)))
  rw [hq0.out] at hj
  refine hj.mono ?_
  rintro e w' ⟨rfl, rfl⟩
  clear hj
  go_wp2_with fail
  have hj := apart_any (a) (b) (some ⟨g_x, 0, none⟩) (some ⟨g_y, 0, none⟩) c_x c_y w15 r_x r_y (by repeat (first | omega | exact Nat.zero_le _ | apply lens_join | (rw [oneL_len]; omega))) (by repeat (first | omega | exact Nat.zero_le _ | apply lens_join | (rw [oneL_len]; omega)))
  rw [(show (!atMost a b && !atMost b a) = false by rw [hp0.out, hq0.out]; rfl)] at hj
  refine hj.mono ?_
  rintro e w16 ⟨rfl, hbx⟩
  clear hj
  replace r_a := r_a.later hbx
  replace r_b := r_b.later hbx
  replace r_x := r_x.later hbx
  replace r_y := r_y.later hbx
  replace hs := hs.later hbx
  replace m_x := m_x.later hbx
  replace m_y := m_y.later hbx
  replace hb := below_next hb hbx
  clear hbx
  go_wp2_with fail
  have hj := leq_any (a) (b) A_a A_b c_a c_b w16 r_a r_b (by repeat (first | omega | exact Nat.zero_le _ | apply lens_join | (rw [oneL_len]; omega))) (by repeat (first | omega | exact Nat.zero_le _ | apply lens_join | (rw [oneL_len]; omega)))
  rw [hp0.out] at hj
  refine hj.mono ?_
  rintro e w' ⟨rfl, rfl⟩
  clear hj
  go_wp2_with fail
  refine (kept_any a g_x c_x A_a c_a w16 m_x r_a (by repeat (first | omega | exact Nat.zero_le _ | apply lens_join | (rw [oneL_len]; omega))) k_x q_x).mono ?_
  rintro e w17 ⟨rfl, hbx⟩
  replace r_a := r_a.later hbx
  replace r_b := r_b.later hbx
  replace r_x := r_x.later hbx
  replace r_y := r_y.later hbx
  replace hs := hs.later hbx
  replace m_x := m_x.later hbx
  replace m_y := m_y.later hbx
  replace hb := below_next hb hbx
  clear hbx
  go_wp2_with fail
  refine (kept_any b g_y c_y A_b c_b w17 m_y r_b (by repeat (first | omega | exact Nat.zero_le _ | apply lens_join | (rw [oneL_len]; omega))) k_y q_y).mono ?_
  rintro e w18 ⟨rfl, hbx⟩
  replace r_a := r_a.later hbx
  replace r_b := r_b.later hbx
  replace r_x := r_x.later hbx
  replace r_y := r_y.later hbx
  replace hs := hs.later hbx
  replace m_x := m_x.later hbx
  replace m_y := m_y.later hbx
  replace hb := below_next hb hbx
  clear hbx
  go_wp2_with fail
  go_ret
  exact ⟨rfl, hb⟩
set_option maxHeartbeats 4000000 in
theorem tells_full_11 (a : List Int) (b : List Int) (A_a : Option Addr) (A_b : Option Addr) (c_a : Nat) (c_b : Nat) (w : World) (r_a : RI w A_a a) (r_b : RI w A_b b) (l_a : a.length ≤ 2000) (l_b : b.length ≤ 2000) (n_a : A_a = none → c_a = 0) (n_b : A_b = none → c_b = 0) (ads : List Addr) (hs : Sent w 62 errGs ads) (hp0 : Hid (atMost a b = true)) (hq0 : Hid (atMost b a = true)) (g : Int) (hg : 0 ≤ g) (hg8 : g < 8) (hn : 65536 ≤ getL a g) :
    Calls Tryd.prog 10 #[.slice A_a a.length c_a, .slice A_b b.length c_b, .int .i64 g] w (Ret w (.bool true)) := by
  have h_a := r_a.len
  have h_b := r_b.len
  obtain ⟨pe, hpe⟩ : ∃ x, ads[14]? = some x := ⟨_, List.getElem?_eq_getElem (by rw [hs.len]; decide)⟩
  have P0 := Lib.hid hpe
  clear hpe
  have hb : Below w.heap.size w w := Below.refl _ _
  go_enter Tryd.func10, Tryd.ntmps10
  go_wp2_with fail
  refine (alive_any w).mono ?_
  rintro e w1 ⟨rfl, hbx⟩
  replace r_a := r_a.later hbx
  replace r_b := r_b.later hbx
  replace hs := hs.later hbx
  replace hb := below_next hb hbx
  clear hbx
  go_wp2_with fail
  refine (ints_any (a) A_a c_a w1 r_a n_a (by repeat (first | omega | exact Nat.zero_le _ | apply lens_join | (rw [oneL_len]; omega)))).mono ?_
  rintro e w2 ⟨g_x, c_x, rfl, k_x, q_x, m_x, hbx⟩
  replace r_a := r_a.later hbx
  replace r_b := r_b.later hbx
  replace hs := hs.later hbx
  replace hb := below_next hb hbx
  clear hbx
  have r_x := m_x.ri h_a
  go_wp2_with fail
  refine (ints_any (b) A_b c_b w2 r_b n_b (by repeat (first | omega | exact Nat.zero_le _ | apply lens_join | (rw [oneL_len]; omega)))).mono ?_
  rintro e w3 ⟨g_y, c_y, rfl, k_y, q_y, m_y, hbx⟩
  replace r_a := r_a.later hbx
  replace r_b := r_b.later hbx
  replace r_x := r_x.later hbx
  replace hs := hs.later hbx
  replace m_x := m_x.later hbx
  replace hb := below_next hb hbx
  clear hbx
  have r_y := m_y.ri h_b
  go_wp2_with fail
  refine (tick_full a (some ⟨g_x, 0, none⟩) c_x g _ w3 (hs.var 14 _ _ rfl P0.out) r_x (by omega) (by omega) hn).mono ?_
  rintro e w4 ⟨rfl, hbx⟩
  replace r_a := r_a.later hbx
  replace r_b := r_b.later hbx
  replace r_x := r_x.later hbx
  replace r_y := r_y.later hbx
  replace hs := hs.later hbx
  replace m_x := m_x.later hbx
  replace m_y := m_y.later hbx
  replace hb := below_next hb hbx
  clear hbx
  have r_t := ri_nil w4 none
  go_wp2_with fail
  refine (rtick_full a A_a c_a g w4 r_a (by omega) (by omega) hn).mono ?_
  rintro e w' ⟨rfl, rfl⟩
  have r_w := ri_nil w4 none
  go_wp2_with fail
  have hj := at_any (a) A_a c_a g w4 r_a
  refine hj.mono ?_
  rintro e w' ⟨rfl, rfl⟩
  clear hj
  go_wp2_with fail
  have hj := sameInts_any ([]) ([]) none none 0 0 w4 r_t r_w
  rw [decide_eq_true rfl] at hj
  refine hj.mono ?_
  rintro e w5 ⟨rfl, hbx⟩
  clear hj
  replace r_a := r_a.later hbx
  replace r_b := r_b.later hbx
  replace r_x := r_x.later hbx
  replace r_y := r_y.later hbx
  replace r_t := r_t.later hbx
  replace r_w := r_w.later hbx
  replace hs := hs.later hbx
  replace m_x := m_x.later hbx
  replace m_y := m_y.later hbx
  replace hb := below_next hb hbx
  clear hbx
  clear r_t
  clear r_w
  go_wp2_with fail
  refine (num_err w5 ads hs 14 _ P0.out).mono ?_
  rintro e w6 ⟨rfl, hbx⟩
  replace r_a := r_a.later hbx
  replace r_b := r_b.later hbx
  replace r_x := r_x.later hbx
  replace r_y := r_y.later hbx
  replace hs := hs.later hbx
  replace m_x := m_x.later hbx
  replace m_y := m_y.later hbx
  replace hb := below_next hb hbx
  clear hbx
  go_wp2_with fail
  have hj := get_any (a) (some ⟨g_x, 0, none⟩) c_x g w6 r_x
  refine hj.mono ?_
  rintro e w' ⟨rfl, rfl⟩
  clear hj
  go_wp2_with fail
  refine (of_any a (some ⟨g_x, 0, none⟩) c_x g w6 r_x).mono ?_
  rintro e w7 ⟨rfl, hbx⟩
  replace r_a := r_a.later hbx
  replace r_b := r_b.later hbx
  replace r_x := r_x.later hbx
  replace r_y := r_y.later hbx
  replace hs := hs.later hbx
  replace m_x := m_x.later hbx
  replace m_y := m_y.later hbx
  replace hb := below_next hb hbx
  clear hbx
  go_wp2_with fail
  have hj := join_any (a) (b) (some ⟨g_x, 0, none⟩) (some ⟨g_y, 0, none⟩) c_x c_y w7 r_x r_y (by repeat (first | omega | exact Nat.zero_le _ | apply lens_join | (rw [oneL_len]; omega))) (by repeat (first | omega | exact Nat.zero_le _ | apply lens_join | (rw [oneL_len]; omega)))
  refine hj.mono ?_
  rintro e w8 ⟨v, rfl, ho, hbx⟩
  clear hj
  obtain ⟨A_j1, c_j1, rfl, _, r_j1⟩ := ho.ri
  clear ho
  replace r_a := r_a.later hbx
  replace r_b := r_b.later hbx
  replace r_x := r_x.later hbx
  replace r_y := r_y.later hbx
  replace hs := hs.later hbx
  replace m_x := m_x.later hbx
  replace m_y := m_y.later hbx
  replace hb := below_next hb hbx
  clear hbx
  go_wp2_with fail
  have hj := rjoin_any (a) (b) A_a A_b c_a c_b w8 r_a r_b (by repeat (first | omega | exact Nat.zero_le _ | apply lens_join | (rw [oneL_len]; omega))) (by repeat (first | omega | exact Nat.zero_le _ | apply lens_join | (rw [oneL_len]; omega)))
  refine hj.mono ?_
  rintro e w9 ⟨v, rfl, ho, hbx⟩
  clear hj
  obtain ⟨A_j2, c_j2, rfl, _, r_j2⟩ := ho.ri
  clear ho
  replace r_a := r_a.later hbx
  replace r_b := r_b.later hbx
  replace r_x := r_x.later hbx
  replace r_y := r_y.later hbx
  replace r_j1 := r_j1.later hbx
  replace hs := hs.later hbx
  replace m_x := m_x.later hbx
  replace m_y := m_y.later hbx
  replace hb := below_next hb hbx
  clear hbx
  go_wp2_with fail
  have hj := sameInts_any (joinL (a) (b)) (joinL (a) (b)) A_j1 A_j2 c_j1 c_j2 w9 r_j1 r_j2
  rw [decide_eq_true rfl] at hj
  refine hj.mono ?_
  rintro e w10 ⟨rfl, hbx⟩
  clear hj
  replace r_a := r_a.later hbx
  replace r_b := r_b.later hbx
  replace r_x := r_x.later hbx
  replace r_y := r_y.later hbx
  replace r_j1 := r_j1.later hbx
  replace r_j2 := r_j2.later hbx
  replace hs := hs.later hbx
  replace m_x := m_x.later hbx
  replace m_y := m_y.later hbx
  replace hb := below_next hb hbx
  clear hbx
  clear r_j1
  clear r_j2
  go_wp2_with fail
  have hj := short_any (a) (some ⟨g_x, 0, none⟩) c_x w10 r_x (by repeat (first | omega | exact Nat.zero_le _ | apply lens_join | (rw [oneL_len]; omega)))
  refine hj.mono ?_
  rintro e w11 ⟨v, rfl, ho, hbx⟩
  clear hj
  obtain ⟨A_s1, c_s1, rfl, _, r_s1⟩ := ho.ri
  clear ho
  replace r_a := r_a.later hbx
  replace r_b := r_b.later hbx
  replace r_x := r_x.later hbx
  replace r_y := r_y.later hbx
  replace hs := hs.later hbx
  replace m_x := m_x.later hbx
  replace m_y := m_y.later hbx
  replace hb := below_next hb hbx
  clear hbx
  go_wp2_with fail
  have hj := rshort_any (a) A_a c_a w11 r_a (by repeat (first | omega | exact Nat.zero_le _ | apply lens_join | (rw [oneL_len]; omega)))
  refine hj.mono ?_
  rintro e w12 ⟨v, rfl, ho, hbx⟩
  clear hj
  obtain ⟨A_s2, c_s2, rfl, _, r_s2⟩ := ho.ri
  clear ho
  replace r_a := r_a.later hbx
  replace r_b := r_b.later hbx
  replace r_x := r_x.later hbx
  replace r_y := r_y.later hbx
  replace r_s1 := r_s1.later hbx
  replace hs := hs.later hbx
  replace m_x := m_x.later hbx
  replace m_y := m_y.later hbx
  replace hb := below_next hb hbx
  clear hbx
  go_wp2_with fail
  have hj := sameInts_any (joinL (a) ([])) (joinL (a) ([])) A_s1 A_s2 c_s1 c_s2 w12 r_s1 r_s2
  rw [decide_eq_true rfl] at hj
  refine hj.mono ?_
  rintro e w13 ⟨rfl, hbx⟩
  clear hj
  replace r_a := r_a.later hbx
  replace r_b := r_b.later hbx
  replace r_x := r_x.later hbx
  replace r_y := r_y.later hbx
  replace r_s1 := r_s1.later hbx
  replace r_s2 := r_s2.later hbx
  replace hs := hs.later hbx
  replace m_x := m_x.later hbx
  replace m_y := m_y.later hbx
  replace hb := below_next hb hbx
  clear hbx
  clear r_s1
  clear r_s2
  go_wp2_with fail
  have hj := atMost_any (a) (b) (some ⟨g_x, 0, none⟩) (some ⟨g_y, 0, none⟩) c_x c_y w13 r_x r_y (by repeat (first | omega | exact Nat.zero_le _ | apply lens_join | (rw [oneL_len]; omega))) (by repeat (first | omega | exact Nat.zero_le _ | apply lens_join | (rw [oneL_len]; omega)))
  rw [hp0.out] at hj
  refine hj.mono ?_
  rintro e w14 ⟨rfl, hbx⟩
  clear hj
  replace r_a := r_a.later hbx
  replace r_b := r_b.later hbx
  replace r_x := r_x.later hbx
  replace r_y := r_y.later hbx
  replace hs := hs.later hbx
  replace m_x := m_x.later hbx
  replace m_y := m_y.later hbx
  replace hb := below_next hb hbx
  clear hbx
  go_wp2_with fail
  have hj := leq_any (a) (b) A_a A_b c_a c_b w14 r_a r_b (by repeat (first | omega | exact Nat.zero_le _ | apply lens_join | (rw [oneL_len]; omega))) (by repeat (first | omega | exact Nat.zero_le _ | apply lens_join | (rw [oneL_len]; omega)))
  rw [hp0.out] at hj
  refine hj.mono ?_
  rintro e w' ⟨rfl, rfl⟩
  clear hj
  go_wp2_with fail
  have hj := same_any (a) (b) (some ⟨g_x, 0, none⟩) (some ⟨g_y, 0, none⟩) c_x c_y w14 r_x r_y (by repeat (first | omega | exact Nat.zero_le _ | apply lens_join | (rw [oneL_len]; omega))) (by repeat (first | omega | exact Nat.zero_le _ | apply lens_join | (rw [oneL_len]; omega)))
  rw [(show (atMost a b && atMost b a) = true by rw [hp0.out, hq0.out]; rfl)] at hj
  refine hj.mono ?_
  rintro e w15 ⟨rfl, hbx⟩
  clear hj
  replace r_a := r_a.later hbx
  replace r_b := r_b.later hbx
  replace r_x := r_x.later hbx
  replace r_y := r_y.later hbx
  replace hs := hs.later hbx
  replace m_x := m_x.later hbx
  replace m_y := m_y.later hbx
  replace hb := below_next hb hbx
  clear hbx
  go_wp2_with fail
  have hj := leq_any (a) (b) A_a A_b c_a c_b w15 r_a r_b (by repeat (first | omega | exact Nat.zero_le _ | apply lens_join | (rw [oneL_len]; omega))) (by repeat (first | omega | exact Nat.zero_le _ | apply lens_join | (rw [oneL_len]; omega)))
  rw [hp0.out] at hj
  refine hj.mono ?_
  rintro e w' ⟨rfl, rfl⟩
  clear hj
  go_wp2_with fail
  have hj := leq_any (b) (a) A_b A_a c_b c_a w15 r_b r_a (by repeat (first | omega | exact Nat.zero_le _ | apply lens_join | (rw [oneL_len]; omega))) (by repeat (first | omega | exact Nat.zero_le _ | apply lens_join | (rw [oneL_len]; omega)))
  rw [hq0.out] at hj
  refine hj.mono ?_
  rintro e w' ⟨rfl, rfl⟩
  clear hj
  go_wp2_with fail
  have hj := apart_any (a) (b) (some ⟨g_x, 0, none⟩) (some ⟨g_y, 0, none⟩) c_x c_y w15 r_x r_y (by repeat (first | omega | exact Nat.zero_le _ | apply lens_join | (rw [oneL_len]; omega))) (by repeat (first | omega | exact Nat.zero_le _ | apply lens_join | (rw [oneL_len]; omega)))
  rw [(show (!atMost a b && !atMost b a) = false by rw [hp0.out, hq0.out]; rfl)] at hj
  refine hj.mono ?_
  rintro e w16 ⟨rfl, hbx⟩
  clear hj
  replace r_a := r_a.later hbx
  replace r_b := r_b.later hbx
  replace r_x := r_x.later hbx
  replace r_y := r_y.later hbx
  replace hs := hs.later hbx
  replace m_x := m_x.later hbx
  replace m_y := m_y.later hbx
  replace hb := below_next hb hbx
  clear hbx
  go_wp2_with fail
  have hj := leq_any (a) (b) A_a A_b c_a c_b w16 r_a r_b (by repeat (first | omega | exact Nat.zero_le _ | apply lens_join | (rw [oneL_len]; omega))) (by repeat (first | omega | exact Nat.zero_le _ | apply lens_join | (rw [oneL_len]; omega)))
  rw [hp0.out] at hj
  refine hj.mono ?_
  rintro e w' ⟨rfl, rfl⟩
  clear hj
  go_wp2_with fail
  refine (kept_any a g_x c_x A_a c_a w16 m_x r_a (by repeat (first | omega | exact Nat.zero_le _ | apply lens_join | (rw [oneL_len]; omega))) k_x q_x).mono ?_
  rintro e w17 ⟨rfl, hbx⟩
  replace r_a := r_a.later hbx
  replace r_b := r_b.later hbx
  replace r_x := r_x.later hbx
  replace r_y := r_y.later hbx
  replace hs := hs.later hbx
  replace m_x := m_x.later hbx
  replace m_y := m_y.later hbx
  replace hb := below_next hb hbx
  clear hbx
  go_wp2_with fail
  refine (kept_any b g_y c_y A_b c_b w17 m_y r_b (by repeat (first | omega | exact Nat.zero_le _ | apply lens_join | (rw [oneL_len]; omega))) k_y q_y).mono ?_
  rintro e w18 ⟨rfl, hbx⟩
  replace r_a := r_a.later hbx
  replace r_b := r_b.later hbx
  replace r_x := r_x.later hbx
  replace r_y := r_y.later hbx
  replace hs := hs.later hbx
  replace m_x := m_x.later hbx
  replace m_y := m_y.later hbx
  replace hb := below_next hb hbx
  clear hbx
  go_wp2_with fail
  go_ret
  exact ⟨rfl, hb⟩

end Go.Proofs.YtcipikacgkkapaaDoor
