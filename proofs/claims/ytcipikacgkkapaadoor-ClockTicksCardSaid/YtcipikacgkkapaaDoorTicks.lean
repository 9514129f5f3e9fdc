/-
  ClockTicks: a tick makes a clock greater, at one place, by one: the law's walk.
-/
import Derived.Test.YtcipikacgkkapaaDoorWd
import Derived.Test.YtcipikacgkkapaaDoorPlain
import Derived.Test.YtcipikacgkkapaaDoorNum
namespace Go.Proofs.YtcipikacgkkapaaDoor
open Go.RowKit Go.Stk
attribute [local go_sem] max2_int max_two

/-- Tick answers something. -/
def SomeTwo (w : World) (e : Ending) (w' : World) : Prop := ∃ v u, e = .returned (.tuple #[v, u]) ∧ Below w.heap.size w w'
theorem tick_some (xs : List Int) (A : Option Addr) (ca : Nat) (g : Int) (w : World) (hx : RI w A xs) (hxs : xs.length ≤ 1000000000) (e0 e1 : Value) (h0 : w.cell? ⟨0, 0, none⟩ = some e0) (h1 : w.cell? ⟨1, 0, none⟩ = some e1) :
    Calls Tryd.prog 14 #[.slice A xs.length ca, .int .i64 g] w (SomeTwo w) := by
  by_cases hg : g < 0 ∨ 8 ≤ g
  · exact (tick_range xs A ca g e0 w h0 hg).mono fun e w' ⟨he, hb⟩ => ⟨_, _, he, hb⟩
  · by_cases hn : 65536 ≤ getL xs g
    · exact (tick_full xs A ca g e1 w h1 hx (by omega) (by omega) hn).mono fun e w' ⟨he, hb⟩ => ⟨_, _, he, hb⟩
    · obtain ⟨k, rfl⟩ := Int.eq_ofNat_of_zero_le (show 0 ≤ g by omega)
      exact (tick_ok xs A ca k w hx hxs (by omega) (by omega) (getL_nonneg _ _)).mono fun e w' ⟨v, he, _, hb⟩ => ⟨_, _, he, hb⟩

theorem ticks_long (a : List Int) (A : Option Addr) (ca : Nat) (g h : Int) (w : World) (hl : 500 < a.length) (hla : a.length ≤ 9223372036854775807) :
    Calls Tryd.prog 9 #[.slice A a.length ca, .int .i64 g, .int .i64 h] w (Ret w (.bool true)) := by
  go_enter Tryd.func9, Tryd.ntmps9
  go_wp2_with fail
  refine (alive_any w).mono ?_
  rintro e w1 ⟨rfl, hb1⟩
  go_wp2_with fail
  go_ret
  exact ⟨rfl, hb1⟩

theorem ticks_range (a : List Int) (A : Option Addr) (ca : Nat) (g h : Int) (w : World) (hl : a.length ≤ 500) (ra : RI w A a) (ads : List Addr) (hs : Sent w 62 errGs ads) (hg : g < 0 ∨ 8 ≤ g) :
    Calls Tryd.prog 9 #[.slice A a.length ca, .int .i64 g, .int .i64 h] w (Ret w (.bool true)) := by
  obtain ⟨p0, hp0⟩ : ∃ p, ads[0]? = some p := ⟨_, List.getElem?_eq_getElem (by rw [hs.len]; decide)⟩
  obtain ⟨p1, hp1⟩ : ∃ p, ads[14]? = some p := ⟨_, List.getElem?_eq_getElem (by rw [hs.len]; decide)⟩
  have E0 := Lib.hid (hs.var 0 _ _ rfl hp0)
  have E1 := Lib.hid (hs.var 14 _ _ rfl hp1)
  have P0 := Lib.hid hp0
  clear hp0 hp1
  go_enter Tryd.func9, Tryd.ntmps9
  go_wp2_with fail
  refine (alive_any w).mono ?_
  rintro e w1 ⟨rfl, hb1⟩
  go_wp2_with fail
  refine (tick_range a A ca g _ w1 (cell_later hb1 E0.out) hg).mono ?_
  rintro e w2 ⟨rfl, hb2⟩
  replace hb2 := below_next hb1 hb2
  go_wp2_with fail
  refine (tick_some a A ca h w2 (ra.later hb2) (by omega) _ _ (cell_later hb2 E0.out) (cell_later hb2 E1.out)).mono ?_
  rintro e w3 ⟨v, u, rfl, hb3⟩
  replace hb3 := below_next hb2 hb3
  go_wp2_with fail
  refine (num_err w3 ads (hs.later hb3) 0 p0 P0.out).mono ?_
  rintro e w4 ⟨rfl, hb4⟩
  replace hb4 := below_next hb3 hb4
  go_wp2_with fail
  go_ret
  exact ⟨rfl, hb4⟩

theorem ticks_full (a : List Int) (A : Option Addr) (ca : Nat) (g h : Int) (w : World) (hl : a.length ≤ 500) (ra : RI w A a) (ads : List Addr) (hs : Sent w 62 errGs ads) (hg : 0 ≤ g) (hg8 : g < 8) (hn : 65536 ≤ getL a g) :
    Calls Tryd.prog 9 #[.slice A a.length ca, .int .i64 g, .int .i64 h] w (Ret w (.bool true)) := by
  obtain ⟨p0, hp0⟩ : ∃ p, ads[0]? = some p := ⟨_, List.getElem?_eq_getElem (by rw [hs.len]; decide)⟩
  obtain ⟨p1, hp1⟩ : ∃ p, ads[14]? = some p := ⟨_, List.getElem?_eq_getElem (by rw [hs.len]; decide)⟩
  have E0 := Lib.hid (hs.var 0 _ _ rfl hp0)
  have E1 := Lib.hid (hs.var 14 _ _ rfl hp1)
  have P1 := Lib.hid hp1
  clear hp0 hp1
  go_enter Tryd.func9, Tryd.ntmps9
  go_wp2_with fail
  refine (alive_any w).mono ?_
  rintro e w1 ⟨rfl, hb1⟩
  go_wp2_with fail
  refine (tick_full a A ca g _ w1 (cell_later hb1 E1.out) (ra.later hb1) hg hg8 hn).mono ?_
  rintro e w2 ⟨rfl, hb2⟩
  replace hb2 := below_next hb1 hb2
  go_wp2_with fail
  refine (tick_some a A ca h w2 (ra.later hb2) (by omega) _ _ (cell_later hb2 E0.out) (cell_later hb2 E1.out)).mono ?_
  rintro e w3 ⟨v, u, rfl, hb3⟩
  replace hb3 := below_next hb2 hb3
  go_wp2_with fail
  refine (num_err w3 ads (hs.later hb3) 14 p1 P1.out).mono ?_
  rintro e w4 ⟨rfl, hb4⟩
  replace hb4 := below_next hb3 hb4
  go_wp2_with fail
  refine (num_err w4 ads (hs.later hb4) 14 p1 P1.out).mono ?_
  rintro e w5 ⟨rfl, hb5⟩
  replace hb5 := below_next hb4 hb5
  go_wp2_with fail
  refine (get_any a A ca g w5 (ra.later hb5)).mono ?_
  rintro e w' ⟨rfl, rfl⟩
  go_wp2_with fail
  go_ret
  exact ⟨rfl, hb5⟩

theorem lens_join {a b : List Int} (ha : a.length ≤ 1000000000) (hb : b.length ≤ 1000000000) : (joinL a b).length ≤ 1000000000 :=
  Nat.le_trans (joinL_len a b) (by omega)
theorem tick_ge (a : List Int) (m : Nat) : atMost a (joinL a (oneL m (getL a m + 1))) = true :=
  (atMost_iff _ _).2 fun g => by rw [getL_tick]; split <;> rename_i h <;> (try subst h) <;> omega
theorem tick_gt (a : List Int) (m : Nat) : atMost (joinL a (oneL m (getL a m + 1))) a = false := by
  cases h : atMost (joinL a (oneL m (getL a m + 1))) a
  · rfl
  · have h1 := (atMost_iff _ _).1 h m
    rw [getL_tick, if_pos rfl] at h1
    omega
theorem tick_apart (a : List Int) (m k : Nat) (hmk : m ≠ k) : (!atMost (joinL a (oneL m (getL a m + 1))) (joinL a (oneL k (getL a k + 1))) && !atMost (joinL a (oneL k (getL a k + 1))) (joinL a (oneL m (getL a m + 1)))) = true := by
  have e1 : atMost (joinL a (oneL m (getL a m + 1))) (joinL a (oneL k (getL a k + 1))) = false := by
    cases h : atMost (joinL a (oneL m (getL a m + 1))) (joinL a (oneL k (getL a k + 1)))
    · rfl
    · have h1 := (atMost_iff _ _).1 h m
      rw [getL_tick, getL_tick, if_pos rfl, if_neg (by omega)] at h1
      omega
  have e2 : atMost (joinL a (oneL k (getL a k + 1))) (joinL a (oneL m (getL a m + 1))) = false := by
    cases h : atMost (joinL a (oneL k (getL a k + 1))) (joinL a (oneL m (getL a m + 1)))
    · rfl
    · have h1 := (atMost_iff _ _).1 h k
      rw [getL_tick, getL_tick, if_pos rfl, if_neg (by omega)] at h1
      omega
  rw [e1, e2]; rfl
theorem tick_lens (a : List Int) (m : Nat) (n : Int) (ha : a.length ≤ 500) (hm : m < 8) : (joinL a (oneL m n)).length ≤ 1000000000 :=
  lens_join (by omega) (by rw [oneL_len]; omega)

set_option maxHeartbeats 1000000 in
theorem ticks_ok_range (a : List Int) (A : Option Addr) (ca : Nat) (m : Nat) (h : Int) (w : World) (hl : a.length ≤ 500) (ra : RI w A a) (ads : List Addr) (hs : Sent w 62 errGs ads) (hm : m < 8) (hn : getL a m < 65536) (hh : h < 0 ∨ 8 ≤ h) :
    Calls Tryd.prog 9 #[.slice A a.length ca, .int .i64 m, .int .i64 h] w (Ret w (.bool true)) := by
  obtain ⟨p0, hp0⟩ : ∃ p, ads[0]? = some p := ⟨_, List.getElem?_eq_getElem (by rw [hs.len]; decide)⟩
  obtain ⟨p1, hp1⟩ : ∃ p, ads[14]? = some p := ⟨_, List.getElem?_eq_getElem (by rw [hs.len]; decide)⟩
  have E0 := Lib.hid (hs.var 0 _ _ rfl hp0)
  have E1 := Lib.hid (hs.var 14 _ _ rfl hp1)
  clear hp0 hp1
  have hn0 := getL_nonneg a m
  go_enter Tryd.func9, Tryd.ntmps9
  go_wp2_with fail
  refine (alive_any w).mono ?_
  rintro e w1 ⟨rfl, hb1⟩
  go_wp2_with fail
  refine (tick_ok a A ca m w1 (ra.later hb1) (by omega) hm hn hn0).mono ?_
  rintro e w2 ⟨v2, rfl, ho2, hb2⟩
  replace hb2 := below_next hb1 hb2
  obtain ⟨A2, c2, rfl, _, r2⟩ := ho2.ri
  clear ho2 hb1
  obtain ⟨X, hX⟩ : ∃ X, X = joinL a (oneL m (getL a m + 1)) := ⟨_, rfl⟩
  have X1 : Hid (atMost a X = true) := by rw [hX]; exact tick_ge a m
  have X2 : Hid (atMost X a = false) := by rw [hX]; exact tick_gt a m
  have X3 : Hid (getL X m = getL a m + 1) := by rw [hX]; show _ = _; rw [getL_tick, if_pos rfl]
  have HXl : X.length ≤ 1000000000 := by rw [hX]; exact tick_lens a m _ hl hm
  have HX := Lib.hid hX
  rw [← hX] at r2 ⊢
  clear hX
  go_wp2_with fail
  refine (tick_range a A ca h _ w2 (cell_later hb2 E0.out) hh).mono ?_
  rintro e w3 ⟨rfl, hb3⟩
  replace r2 := r2.later hb3
  replace hb3 := below_next hb2 hb3
  -- the tick is told
  go_wp2_with fail
  have hj := atMost_any a X A A2 ca c2 w3 (ra.later hb3) r2 (by omega) HXl
  rw [X1.out] at hj
  refine hj.mono ?_
  rintro e w4 ⟨rfl, hbx⟩
  clear hj
  replace r2 := r2.later hbx
  replace hb3 := below_next hb3 hbx
  clear hbx
  go_wp2_with fail
  have hj := atMost_any X a A2 A c2 ca w4 r2 (ra.later hb3) HXl (by omega)
  rw [X2.out] at hj
  refine hj.mono ?_
  rintro e w5 ⟨rfl, hbx⟩
  clear hj
  replace r2 := r2.later hbx
  replace hb3 := below_next hb3 hbx
  clear hbx
  go_wp2_with fail
  have hj := get_any X A2 c2 m w5 r2
  rw [X3.out] at hj
  refine hj.mono ?_
  rintro e w' ⟨rfl, rfl⟩
  clear hj
  go_wp2_with fail
  refine (get_any a A ca m w5 (ra.later hb3)).mono ?_
  rintro e w' ⟨rfl, rfl⟩
  go_wp2_with fail
  have hj := get_any X A2 c2 m w5 r2
  rw [X3.out] at hj
  refine hj.mono ?_
  rintro e w' ⟨rfl, rfl⟩
  clear hj
  go_wp2_with fail
  go_ret
  exact ⟨rfl, hb3⟩

set_option maxHeartbeats 1000000 in
theorem ticks_ok_full (a : List Int) (A : Option Addr) (ca : Nat) (m : Nat) (h : Int) (w : World) (hl : a.length ≤ 500) (ra : RI w A a) (ads : List Addr) (hs : Sent w 62 errGs ads) (hm : m < 8) (hn : getL a m < 65536) (hh0 : 0 ≤ h) (hh8 : h < 8) (hhn : 65536 ≤ getL a h) :
    Calls Tryd.prog 9 #[.slice A a.length ca, .int .i64 m, .int .i64 h] w (Ret w (.bool true)) := by
  obtain ⟨p0, hp0⟩ : ∃ p, ads[0]? = some p := ⟨_, List.getElem?_eq_getElem (by rw [hs.len]; decide)⟩
  obtain ⟨p1, hp1⟩ : ∃ p, ads[14]? = some p := ⟨_, List.getElem?_eq_getElem (by rw [hs.len]; decide)⟩
  have E0 := Lib.hid (hs.var 0 _ _ rfl hp0)
  have E1 := Lib.hid (hs.var 14 _ _ rfl hp1)
  clear hp0 hp1
  have hn0 := getL_nonneg a m
  go_enter Tryd.func9, Tryd.ntmps9
  go_wp2_with fail
  refine (alive_any w).mono ?_
  rintro e w1 ⟨rfl, hb1⟩
  go_wp2_with fail
  refine (tick_ok a A ca m w1 (ra.later hb1) (by omega) hm hn hn0).mono ?_
  rintro e w2 ⟨v2, rfl, ho2, hb2⟩
  replace hb2 := below_next hb1 hb2
  obtain ⟨A2, c2, rfl, _, r2⟩ := ho2.ri
  clear ho2 hb1
  obtain ⟨X, hX⟩ : ∃ X, X = joinL a (oneL m (getL a m + 1)) := ⟨_, rfl⟩
  have X1 : Hid (atMost a X = true) := by rw [hX]; exact tick_ge a m
  have X2 : Hid (atMost X a = false) := by rw [hX]; exact tick_gt a m
  have X3 : Hid (getL X m = getL a m + 1) := by rw [hX]; show _ = _; rw [getL_tick, if_pos rfl]
  have HXl : X.length ≤ 1000000000 := by rw [hX]; exact tick_lens a m _ hl hm
  have HX := Lib.hid hX
  rw [← hX] at r2 ⊢
  clear hX
  go_wp2_with fail
  refine (tick_full a A ca h _ w2 (cell_later hb2 E1.out) (ra.later hb2) hh0 hh8 hhn).mono ?_
  rintro e w3 ⟨rfl, hb3⟩
  replace r2 := r2.later hb3
  replace hb3 := below_next hb2 hb3
  -- the tick is told
  go_wp2_with fail
  have hj := atMost_any a X A A2 ca c2 w3 (ra.later hb3) r2 (by omega) HXl
  rw [X1.out] at hj
  refine hj.mono ?_
  rintro e w4 ⟨rfl, hbx⟩
  clear hj
  replace r2 := r2.later hbx
  replace hb3 := below_next hb3 hbx
  clear hbx
  go_wp2_with fail
  have hj := atMost_any X a A2 A c2 ca w4 r2 (ra.later hb3) HXl (by omega)
  rw [X2.out] at hj
  refine hj.mono ?_
  rintro e w5 ⟨rfl, hbx⟩
  clear hj
  replace r2 := r2.later hbx
  replace hb3 := below_next hb3 hbx
  clear hbx
  go_wp2_with fail
  have hj := get_any X A2 c2 m w5 r2
  rw [X3.out] at hj
  refine hj.mono ?_
  rintro e w' ⟨rfl, rfl⟩
  clear hj
  go_wp2_with fail
  refine (get_any a A ca m w5 (ra.later hb3)).mono ?_
  rintro e w' ⟨rfl, rfl⟩
  go_wp2_with fail
  have hj := get_any X A2 c2 m w5 r2
  rw [X3.out] at hj
  refine hj.mono ?_
  rintro e w' ⟨rfl, rfl⟩
  clear hj
  go_wp2_with fail
  go_ret
  exact ⟨rfl, hb3⟩

set_option maxHeartbeats 1000000 in
theorem ticks_ok_ok (a : List Int) (A : Option Addr) (ca : Nat) (m : Nat) (w : World) (hl : a.length ≤ 500) (ra : RI w A a) (ads : List Addr) (hs : Sent w 62 errGs ads) (hm : m < 8) (hn : getL a m < 65536) (k : Nat) (hk : k < 8) (hhn : getL a k < 65536) (hmk : m ≠ k) :
    Calls Tryd.prog 9 #[.slice A a.length ca, .int .i64 m, .int .i64 k] w (Ret w (.bool true)) := by
  obtain ⟨p0, hp0⟩ : ∃ p, ads[0]? = some p := ⟨_, List.getElem?_eq_getElem (by rw [hs.len]; decide)⟩
  obtain ⟨p1, hp1⟩ : ∃ p, ads[14]? = some p := ⟨_, List.getElem?_eq_getElem (by rw [hs.len]; decide)⟩
  have E0 := Lib.hid (hs.var 0 _ _ rfl hp0)
  have E1 := Lib.hid (hs.var 14 _ _ rfl hp1)
  clear hp0 hp1
  have hn0 := getL_nonneg a m
  go_enter Tryd.func9, Tryd.ntmps9
  go_wp2_with fail
  refine (alive_any w).mono ?_
  rintro e w1 ⟨rfl, hb1⟩
  go_wp2_with fail
  refine (tick_ok a A ca m w1 (ra.later hb1) (by omega) hm hn hn0).mono ?_
  rintro e w2 ⟨v2, rfl, ho2, hb2⟩
  replace hb2 := below_next hb1 hb2
  obtain ⟨A2, c2, rfl, _, r2⟩ := ho2.ri
  clear ho2 hb1
  obtain ⟨X, hX⟩ : ∃ X, X = joinL a (oneL m (getL a m + 1)) := ⟨_, rfl⟩
  have X1 : Hid (atMost a X = true) := by rw [hX]; exact tick_ge a m
  have X2 : Hid (atMost X a = false) := by rw [hX]; exact tick_gt a m
  have X3 : Hid (getL X m = getL a m + 1) := by rw [hX]; show _ = _; rw [getL_tick, if_pos rfl]
  have HXl : X.length ≤ 1000000000 := by rw [hX]; exact tick_lens a m _ hl hm
  have HX := Lib.hid hX
  rw [← hX] at r2 ⊢
  clear hX
  go_wp2_with fail
  refine (tick_ok a A ca k w2 (ra.later hb2) (by omega) hk hhn (getL_nonneg _ _)).mono ?_
  rintro e w3 ⟨v3, rfl, ho3, hb3⟩
  replace r2 := r2.later hb3
  replace hb3 := below_next hb2 hb3
  obtain ⟨A3, c3, rfl, _, r3⟩ := ho3.ri
  clear ho3
  -- the tick is told
  go_wp2_with fail
  have hj := atMost_any a X A A2 ca c2 w3 (ra.later hb3) r2 (by omega) HXl
  rw [X1.out] at hj
  refine hj.mono ?_
  rintro e w4 ⟨rfl, hbx⟩
  clear hj
  replace r2 := r2.later hbx
  replace r3 := r3.later hbx
  replace hb3 := below_next hb3 hbx
  clear hbx
  go_wp2_with fail
  have hj := atMost_any X a A2 A c2 ca w4 r2 (ra.later hb3) HXl (by omega)
  rw [X2.out] at hj
  refine hj.mono ?_
  rintro e w5 ⟨rfl, hbx⟩
  clear hj
  replace r2 := r2.later hbx
  replace r3 := r3.later hbx
  replace hb3 := below_next hb3 hbx
  clear hbx
  go_wp2_with fail
  have hj := get_any X A2 c2 m w5 r2
  rw [X3.out] at hj
  refine hj.mono ?_
  rintro e w' ⟨rfl, rfl⟩
  clear hj
  go_wp2_with fail
  refine (get_any a A ca m w5 (ra.later hb3)).mono ?_
  rintro e w' ⟨rfl, rfl⟩
  go_wp2_with fail
  have hj := get_any X A2 c2 m w5 r2
  rw [X3.out] at hj
  refine hj.mono ?_
  rintro e w' ⟨rfl, rfl⟩
  clear hj
  have hj := apart_any X (joinL a (oneL k (getL a k + 1))) A2 A3 c2 c3 w5 r2 r3 HXl (tick_lens a k _ hl hk)
  rw [HX.out, tick_apart a m k hmk] at hj
  rw [← HX.out] at hj
  have HJ := Lib.hid hj
  clear hj
  have hmk2 : ((m : Int) == (k : Int)) = false := by rw [beq_eq_false_iff_ne]; omega
  go_wp2_with fail
  refine HJ.out.mono ?_
  rintro e w6 ⟨rfl, hbx⟩
  replace hb3 := below_next hb3 hbx
  go_wp2_with fail
  go_ret
  exact ⟨rfl, hb3⟩

set_option maxHeartbeats 1000000 in
theorem ticks_ok_same (a : List Int) (A : Option Addr) (ca : Nat) (m : Nat) (w : World) (hl : a.length ≤ 500) (ra : RI w A a) (ads : List Addr) (hs : Sent w 62 errGs ads) (hm : m < 8) (hn : getL a m < 65536) :
    Calls Tryd.prog 9 #[.slice A a.length ca, .int .i64 m, .int .i64 m] w (Ret w (.bool true)) := by
  obtain ⟨p0, hp0⟩ : ∃ p, ads[0]? = some p := ⟨_, List.getElem?_eq_getElem (by rw [hs.len]; decide)⟩
  obtain ⟨p1, hp1⟩ : ∃ p, ads[14]? = some p := ⟨_, List.getElem?_eq_getElem (by rw [hs.len]; decide)⟩
  have E0 := Lib.hid (hs.var 0 _ _ rfl hp0)
  have E1 := Lib.hid (hs.var 14 _ _ rfl hp1)
  clear hp0 hp1
  have hn0 := getL_nonneg a m
  go_enter Tryd.func9, Tryd.ntmps9
  go_wp2_with fail
  refine (alive_any w).mono ?_
  rintro e w1 ⟨rfl, hb1⟩
  go_wp2_with fail
  refine (tick_ok a A ca m w1 (ra.later hb1) (by omega) hm hn hn0).mono ?_
  rintro e w2 ⟨v2, rfl, ho2, hb2⟩
  replace hb2 := below_next hb1 hb2
  obtain ⟨A2, c2, rfl, _, r2⟩ := ho2.ri
  clear ho2 hb1
  obtain ⟨X, hX⟩ : ∃ X, X = joinL a (oneL m (getL a m + 1)) := ⟨_, rfl⟩
  have X1 : Hid (atMost a X = true) := by rw [hX]; exact tick_ge a m
  have X2 : Hid (atMost X a = false) := by rw [hX]; exact tick_gt a m
  have X3 : Hid (getL X m = getL a m + 1) := by rw [hX]; show _ = _; rw [getL_tick, if_pos rfl]
  have HXl : X.length ≤ 1000000000 := by rw [hX]; exact tick_lens a m _ hl hm
  have HX := Lib.hid hX
  rw [← hX] at r2 ⊢
  clear hX
  go_wp2_with fail
  refine (tick_ok a A ca m w2 (ra.later hb2) (by omega) hm hn (getL_nonneg _ _)).mono ?_
  rintro e w3 ⟨v3, rfl, ho3, hb3⟩
  replace r2 := r2.later hb3
  replace hb3 := below_next hb2 hb3
  obtain ⟨A3, c3, rfl, _, r3⟩ := ho3.ri
  clear ho3 r3
  -- the tick is told
  go_wp2_with fail
  have hj := atMost_any a X A A2 ca c2 w3 (ra.later hb3) r2 (by omega) HXl
  rw [X1.out] at hj
  refine hj.mono ?_
  rintro e w4 ⟨rfl, hbx⟩
  clear hj
  replace r2 := r2.later hbx
  replace hb3 := below_next hb3 hbx
  clear hbx
  go_wp2_with fail
  have hj := atMost_any X a A2 A c2 ca w4 r2 (ra.later hb3) HXl (by omega)
  rw [X2.out] at hj
  refine hj.mono ?_
  rintro e w5 ⟨rfl, hbx⟩
  clear hj
  replace r2 := r2.later hbx
  replace hb3 := below_next hb3 hbx
  clear hbx
  go_wp2_with fail
  have hj := get_any X A2 c2 m w5 r2
  rw [X3.out] at hj
  refine hj.mono ?_
  rintro e w' ⟨rfl, rfl⟩
  clear hj
  go_wp2_with fail
  refine (get_any a A ca m w5 (ra.later hb3)).mono ?_
  rintro e w' ⟨rfl, rfl⟩
  go_wp2_with fail
  have hj := get_any X A2 c2 m w5 r2
  rw [X3.out] at hj
  refine hj.mono ?_
  rintro e w' ⟨rfl, rfl⟩
  clear hj
  go_wp2_with fail
  go_ret
  exact ⟨rfl, hb3⟩

theorem ticks_any (a : List Int) (A : Option Addr) (ca : Nat) (g h : Int) (w : World) (ra : RI w A a) (ads : List Addr) (hs : Sent w 62 errGs ads) :
    Calls Tryd.prog 9 #[.slice A a.length ca, .int .i64 g, .int .i64 h] w (Ret w (.bool true)) := by
  by_cases hl : 500 < a.length
  · exact ticks_long a A ca g h w hl ra.len
  have hl2 : a.length ≤ 500 := by omega
  by_cases hg : g < 0 ∨ 8 ≤ g
  · exact ticks_range a A ca g h w hl2 ra ads hs hg
  by_cases hn : 65536 ≤ getL a g
  · exact ticks_full a A ca g h w hl2 ra ads hs (by omega) (by omega) hn
  obtain ⟨m, rfl⟩ := Int.eq_ofNat_of_zero_le (show 0 ≤ g by omega)
  by_cases hh : h < 0 ∨ 8 ≤ h
  · exact ticks_ok_range a A ca m h w hl2 ra ads hs (by omega) (by omega) hh
  by_cases hhn : 65536 ≤ getL a h
  · exact ticks_ok_full a A ca m h w hl2 ra ads hs (by omega) (by omega) (by omega) (by omega) hhn
  obtain ⟨k, rfl⟩ := Int.eq_ofNat_of_zero_le (show 0 ≤ h by omega)
  by_cases hmk : m = k
  · subst hmk
    exact ticks_ok_same a A ca m w hl2 ra ads hs (by omega) (by omega)
  · exact ticks_ok_ok a A ca m w hl2 ra ads hs (by omega) (by omega) k (by omega) (by omega) hmk
end Go.Proofs.YtcipikacgkkapaaDoor
