/-
  The document's answer on an instruction, by its number (1, 2, 3, 4, 5, 6, 7, 12).
-/
import Derived.Test.YtbpbimkadiobfaaDoorRIns0
import Derived.Deep.RegionLaw
import Derived.ChangeAlike
namespace Go.Proofs.YtbpbimkadiobfaaDoor
open Go.RowKit Go.Stk

set_option maxRecDepth 100000 in
set_option maxHeartbeats 4000000 in
theorem refI_1 (c : Co) (x : Ins) (w : World) (hb : Bnd c) (hx : x.op = 1) (hz : wB x.at_ 0 8192 = true) : Calls Tryd.prog 42 #[c.agg, x.agg] w (Ret w (.bool (decide (0 ≤ x.a) && (decide (x.b = 0) && decide (x.bits = 0))))) := by
  have b1 := hb.np
  have b2 := hb.m0
  have b3 := hb.m1
  have b4 := hb.a0
  have b5 := hb.a1
  have b6 := hb.nc
  have b7 := hb.nf
  have b8 := hb.nb
  clear hb
  obtain ⟨op, a, b, bits, at_⟩ := x
  unfold Co.agg Ins.agg
  dsimp only at hx hz ⊢
  subst hx
  obtain ⟨t0, t1⟩ := (wB_iff _ _ _).1 hz
  have e0 : decide (at_ < 0) = false := decide_eq_false (by omega)
  have e1 : decide (8192 < at_) = false := decide_eq_false (by omega)
  clear hz
  by_cases hd0 : 0 ≤ a
  · have dd0 : decide (0 ≤ a) = true := decide_eq_true hd0
    by_cases hb : b = 0
    · have zb : (b == 0) = true := by simpa using hb
      by_cases hbits : bits = 0
      · have zbits : (bits == 0) = true := by simpa using hbits
        go_enter Tryd.func42, Tryd.ntmps42
        go_wp2_with fail
        all_goals
          go_ret
          exact ⟨by first | rfl | (simp; done) | (simp [*]; done) | (simp_all; done), (by repeat (first | exact Below.refl _ _ | refine below_alloc ?_ _))⟩
      · have zbits : (bits == 0) = false := by simpa using hbits
        go_enter Tryd.func42, Tryd.ntmps42
        go_wp2_with fail
        all_goals
          go_ret
          exact ⟨by first | rfl | (simp; done) | (simp [*]; done) | (simp_all; done), (by repeat (first | exact Below.refl _ _ | refine below_alloc ?_ _))⟩
    · have zb : (b == 0) = false := by simpa using hb
      by_cases hbits : bits = 0
      · have zbits : (bits == 0) = true := by simpa using hbits
        go_enter Tryd.func42, Tryd.ntmps42
        go_wp2_with fail
        all_goals
          go_ret
          exact ⟨by first | rfl | (simp; done) | (simp [*]; done) | (simp_all; done), (by repeat (first | exact Below.refl _ _ | refine below_alloc ?_ _))⟩
      · have zbits : (bits == 0) = false := by simpa using hbits
        go_enter Tryd.func42, Tryd.ntmps42
        go_wp2_with fail
        all_goals
          go_ret
          exact ⟨by first | rfl | (simp; done) | (simp [*]; done) | (simp_all; done), (by repeat (first | exact Below.refl _ _ | refine below_alloc ?_ _))⟩
  · have dd0 : decide (0 ≤ a) = false := decide_eq_false hd0
    go_enter Tryd.func42, Tryd.ntmps42
    go_wp2_with fail
    all_goals
      go_ret
      exact ⟨by first | rfl | (simp; done) | (simp [*]; done) | (simp_all; done), (by repeat (first | exact Below.refl _ _ | refine below_alloc ?_ _))⟩
set_option maxRecDepth 100000 in
set_option maxHeartbeats 4000000 in
theorem refI_2 (c : Co) (x : Ins) (w : World) (hb : Bnd c) (hx : x.op = 2) (hz : wB x.at_ 0 8192 = true) : Calls Tryd.prog 42 #[c.agg, x.agg] w (Ret w (.bool (decide (x.a = 0) && decide (x.b = 0)))) := by
  have b1 := hb.np
  have b2 := hb.m0
  have b3 := hb.m1
  have b4 := hb.a0
  have b5 := hb.a1
  have b6 := hb.nc
  have b7 := hb.nf
  have b8 := hb.nb
  clear hb
  obtain ⟨op, a, b, bits, at_⟩ := x
  unfold Co.agg Ins.agg
  dsimp only at hx hz ⊢
  subst hx
  obtain ⟨t0, t1⟩ := (wB_iff _ _ _).1 hz
  have e0 : decide (at_ < 0) = false := decide_eq_false (by omega)
  have e1 : decide (8192 < at_) = false := decide_eq_false (by omega)
  clear hz
  by_cases ha : a = 0
  · have za : (a == 0) = true := by simpa using ha
    by_cases hb : b = 0
    · have zb : (b == 0) = true := by simpa using hb
      go_enter Tryd.func42, Tryd.ntmps42
      go_wp2_with fail
      all_goals
        go_ret
        exact ⟨by first | rfl | (simp; done) | (simp [*]; done) | (simp_all; done), (by repeat (first | exact Below.refl _ _ | refine below_alloc ?_ _))⟩
    · have zb : (b == 0) = false := by simpa using hb
      go_enter Tryd.func42, Tryd.ntmps42
      go_wp2_with fail
      all_goals
        go_ret
        exact ⟨by first | rfl | (simp; done) | (simp [*]; done) | (simp_all; done), (by repeat (first | exact Below.refl _ _ | refine below_alloc ?_ _))⟩
  · have za : (a == 0) = false := by simpa using ha
    by_cases hb : b = 0
    · have zb : (b == 0) = true := by simpa using hb
      go_enter Tryd.func42, Tryd.ntmps42
      go_wp2_with fail
      all_goals
        go_ret
        exact ⟨by first | rfl | (simp; done) | (simp [*]; done) | (simp_all; done), (by repeat (first | exact Below.refl _ _ | refine below_alloc ?_ _))⟩
    · have zb : (b == 0) = false := by simpa using hb
      go_enter Tryd.func42, Tryd.ntmps42
      go_wp2_with fail
      all_goals
        go_ret
        exact ⟨by first | rfl | (simp; done) | (simp [*]; done) | (simp_all; done), (by repeat (first | exact Below.refl _ _ | refine below_alloc ?_ _))⟩
set_option maxRecDepth 100000 in
set_option maxHeartbeats 4000000 in
theorem refI_3 (c : Co) (x : Ins) (w : World) (hb : Bnd c) (hx : x.op = 3) (hz : wB x.at_ 0 8192 = true) : Calls Tryd.prog 42 #[c.agg, x.agg] w (Ret w (.bool (wB x.a 0 1 && (decide (x.b = 0) && decide (x.bits = 0))))) := by
  have b1 := hb.np
  have b2 := hb.m0
  have b3 := hb.m1
  have b4 := hb.a0
  have b5 := hb.a1
  have b6 := hb.nc
  have b7 := hb.nf
  have b8 := hb.nb
  clear hb
  obtain ⟨op, a, b, bits, at_⟩ := x
  unfold Co.agg Ins.agg
  dsimp only at hx hz ⊢
  subst hx
  obtain ⟨t0, t1⟩ := (wB_iff _ _ _).1 hz
  have e0 : decide (at_ < 0) = false := decide_eq_false (by omega)
  have e1 : decide (8192 < at_) = false := decide_eq_false (by omega)
  clear hz
  obtain ⟨y0, hy0⟩ : ∃ y, wB a 0 1 = y := ⟨_, rfl⟩
  rw [hy0]
  have HY0 : Hid (wB a 0 ((2 : Int) - 1) = y0) := hy0
  clear hy0
  cases y0
  · go_enter Tryd.func42, Tryd.ntmps42
    go_wp2_with fail
    refine (in_any _ _ _).mono ?_
    rintro e w' ⟨rfl, rfl⟩
    rw [HY0.out]
    go_wp2_with fail
    all_goals
      go_ret
      exact ⟨by first | rfl | (simp; done) | (simp [*]; done) | (simp_all; done), (by repeat (first | exact Below.refl _ _ | refine below_alloc ?_ _))⟩
  · by_cases hb : b = 0
    · have zb : (b == 0) = true := by simpa using hb
      by_cases hbits : bits = 0
      · have zbits : (bits == 0) = true := by simpa using hbits
        go_enter Tryd.func42, Tryd.ntmps42
        go_wp2_with fail
        refine (in_any _ _ _).mono ?_
        rintro e w' ⟨rfl, rfl⟩
        rw [HY0.out]
        go_wp2_with fail
        all_goals
          go_ret
          exact ⟨by first | rfl | (simp; done) | (simp [*]; done) | (simp_all; done), (by repeat (first | exact Below.refl _ _ | refine below_alloc ?_ _))⟩
      · have zbits : (bits == 0) = false := by simpa using hbits
        go_enter Tryd.func42, Tryd.ntmps42
        go_wp2_with fail
        refine (in_any _ _ _).mono ?_
        rintro e w' ⟨rfl, rfl⟩
        rw [HY0.out]
        go_wp2_with fail
        all_goals
          go_ret
          exact ⟨by first | rfl | (simp; done) | (simp [*]; done) | (simp_all; done), (by repeat (first | exact Below.refl _ _ | refine below_alloc ?_ _))⟩
    · have zb : (b == 0) = false := by simpa using hb
      by_cases hbits : bits = 0
      · have zbits : (bits == 0) = true := by simpa using hbits
        go_enter Tryd.func42, Tryd.ntmps42
        go_wp2_with fail
        refine (in_any _ _ _).mono ?_
        rintro e w' ⟨rfl, rfl⟩
        rw [HY0.out]
        go_wp2_with fail
        all_goals
          go_ret
          exact ⟨by first | rfl | (simp; done) | (simp [*]; done) | (simp_all; done), (by repeat (first | exact Below.refl _ _ | refine below_alloc ?_ _))⟩
      · have zbits : (bits == 0) = false := by simpa using hbits
        go_enter Tryd.func42, Tryd.ntmps42
        go_wp2_with fail
        refine (in_any _ _ _).mono ?_
        rintro e w' ⟨rfl, rfl⟩
        rw [HY0.out]
        go_wp2_with fail
        all_goals
          go_ret
          exact ⟨by first | rfl | (simp; done) | (simp [*]; done) | (simp_all; done), (by repeat (first | exact Below.refl _ _ | refine below_alloc ?_ _))⟩
set_option maxRecDepth 100000 in
set_option maxHeartbeats 4000000 in
theorem refI_4 (c : Co) (x : Ins) (w : World) (hb : Bnd c) (hx : x.op = 4) (hz : wB x.at_ 0 8192 = true) : Calls Tryd.prog 42 #[c.agg, x.agg] w (Ret w (.bool (wB x.a 0 31 && (decide (x.b = 0) && decide (x.bits = 0))))) := by
  have b1 := hb.np
  have b2 := hb.m0
  have b3 := hb.m1
  have b4 := hb.a0
  have b5 := hb.a1
  have b6 := hb.nc
  have b7 := hb.nf
  have b8 := hb.nb
  clear hb
  obtain ⟨op, a, b, bits, at_⟩ := x
  unfold Co.agg Ins.agg
  dsimp only at hx hz ⊢
  subst hx
  obtain ⟨t0, t1⟩ := (wB_iff _ _ _).1 hz
  have e0 : decide (at_ < 0) = false := decide_eq_false (by omega)
  have e1 : decide (8192 < at_) = false := decide_eq_false (by omega)
  clear hz
  obtain ⟨y0, hy0⟩ : ∃ y, wB a 0 31 = y := ⟨_, rfl⟩
  rw [hy0]
  have HY0 : Hid (wB a 0 ((32 : Int) - 1) = y0) := hy0
  clear hy0
  cases y0
  · go_enter Tryd.func42, Tryd.ntmps42
    go_wp2_with fail
    refine (in_any _ _ _).mono ?_
    rintro e w' ⟨rfl, rfl⟩
    rw [HY0.out]
    go_wp2_with fail
    all_goals
      go_ret
      exact ⟨by first | rfl | (simp; done) | (simp [*]; done) | (simp_all; done), (by repeat (first | exact Below.refl _ _ | refine below_alloc ?_ _))⟩
  · by_cases hb : b = 0
    · have zb : (b == 0) = true := by simpa using hb
      by_cases hbits : bits = 0
      · have zbits : (bits == 0) = true := by simpa using hbits
        go_enter Tryd.func42, Tryd.ntmps42
        go_wp2_with fail
        refine (in_any _ _ _).mono ?_
        rintro e w' ⟨rfl, rfl⟩
        rw [HY0.out]
        go_wp2_with fail
        all_goals
          go_ret
          exact ⟨by first | rfl | (simp; done) | (simp [*]; done) | (simp_all; done), (by repeat (first | exact Below.refl _ _ | refine below_alloc ?_ _))⟩
      · have zbits : (bits == 0) = false := by simpa using hbits
        go_enter Tryd.func42, Tryd.ntmps42
        go_wp2_with fail
        refine (in_any _ _ _).mono ?_
        rintro e w' ⟨rfl, rfl⟩
        rw [HY0.out]
        go_wp2_with fail
        all_goals
          go_ret
          exact ⟨by first | rfl | (simp; done) | (simp [*]; done) | (simp_all; done), (by repeat (first | exact Below.refl _ _ | refine below_alloc ?_ _))⟩
    · have zb : (b == 0) = false := by simpa using hb
      by_cases hbits : bits = 0
      · have zbits : (bits == 0) = true := by simpa using hbits
        go_enter Tryd.func42, Tryd.ntmps42
        go_wp2_with fail
        refine (in_any _ _ _).mono ?_
        rintro e w' ⟨rfl, rfl⟩
        rw [HY0.out]
        go_wp2_with fail
        all_goals
          go_ret
          exact ⟨by first | rfl | (simp; done) | (simp [*]; done) | (simp_all; done), (by repeat (first | exact Below.refl _ _ | refine below_alloc ?_ _))⟩
      · have zbits : (bits == 0) = false := by simpa using hbits
        go_enter Tryd.func42, Tryd.ntmps42
        go_wp2_with fail
        refine (in_any _ _ _).mono ?_
        rintro e w' ⟨rfl, rfl⟩
        rw [HY0.out]
        go_wp2_with fail
        all_goals
          go_ret
          exact ⟨by first | rfl | (simp; done) | (simp [*]; done) | (simp_all; done), (by repeat (first | exact Below.refl _ _ | refine below_alloc ?_ _))⟩
set_option maxRecDepth 100000 in
set_option maxHeartbeats 4000000 in
theorem refI_5 (c : Co) (x : Ins) (w : World) (hb : Bnd c) (hx : x.op = 5) (hz : wB x.at_ 0 8192 = true) : Calls Tryd.prog 42 #[c.agg, x.agg] w (Ret w (.bool (wB x.a 0 31 && (decide (x.b = 0) && decide (x.bits = 0))))) := by
  have b1 := hb.np
  have b2 := hb.m0
  have b3 := hb.m1
  have b4 := hb.a0
  have b5 := hb.a1
  have b6 := hb.nc
  have b7 := hb.nf
  have b8 := hb.nb
  clear hb
  obtain ⟨op, a, b, bits, at_⟩ := x
  unfold Co.agg Ins.agg
  dsimp only at hx hz ⊢
  subst hx
  obtain ⟨t0, t1⟩ := (wB_iff _ _ _).1 hz
  have e0 : decide (at_ < 0) = false := decide_eq_false (by omega)
  have e1 : decide (8192 < at_) = false := decide_eq_false (by omega)
  clear hz
  obtain ⟨y0, hy0⟩ : ∃ y, wB a 0 31 = y := ⟨_, rfl⟩
  rw [hy0]
  have HY0 : Hid (wB a 0 ((32 : Int) - 1) = y0) := hy0
  clear hy0
  cases y0
  · go_enter Tryd.func42, Tryd.ntmps42
    go_wp2_with fail
    refine (in_any _ _ _).mono ?_
    rintro e w' ⟨rfl, rfl⟩
    rw [HY0.out]
    go_wp2_with fail
    all_goals
      go_ret
      exact ⟨by first | rfl | (simp; done) | (simp [*]; done) | (simp_all; done), (by repeat (first | exact Below.refl _ _ | refine below_alloc ?_ _))⟩
  · by_cases hb : b = 0
    · have zb : (b == 0) = true := by simpa using hb
      by_cases hbits : bits = 0
      · have zbits : (bits == 0) = true := by simpa using hbits
        go_enter Tryd.func42, Tryd.ntmps42
        go_wp2_with fail
        refine (in_any _ _ _).mono ?_
        rintro e w' ⟨rfl, rfl⟩
        rw [HY0.out]
        go_wp2_with fail
        all_goals
          go_ret
          exact ⟨by first | rfl | (simp; done) | (simp [*]; done) | (simp_all; done), (by repeat (first | exact Below.refl _ _ | refine below_alloc ?_ _))⟩
      · have zbits : (bits == 0) = false := by simpa using hbits
        go_enter Tryd.func42, Tryd.ntmps42
        go_wp2_with fail
        refine (in_any _ _ _).mono ?_
        rintro e w' ⟨rfl, rfl⟩
        rw [HY0.out]
        go_wp2_with fail
        all_goals
          go_ret
          exact ⟨by first | rfl | (simp; done) | (simp [*]; done) | (simp_all; done), (by repeat (first | exact Below.refl _ _ | refine below_alloc ?_ _))⟩
    · have zb : (b == 0) = false := by simpa using hb
      by_cases hbits : bits = 0
      · have zbits : (bits == 0) = true := by simpa using hbits
        go_enter Tryd.func42, Tryd.ntmps42
        go_wp2_with fail
        refine (in_any _ _ _).mono ?_
        rintro e w' ⟨rfl, rfl⟩
        rw [HY0.out]
        go_wp2_with fail
        all_goals
          go_ret
          exact ⟨by first | rfl | (simp; done) | (simp [*]; done) | (simp_all; done), (by repeat (first | exact Below.refl _ _ | refine below_alloc ?_ _))⟩
      · have zbits : (bits == 0) = false := by simpa using hbits
        go_enter Tryd.func42, Tryd.ntmps42
        go_wp2_with fail
        refine (in_any _ _ _).mono ?_
        rintro e w' ⟨rfl, rfl⟩
        rw [HY0.out]
        go_wp2_with fail
        all_goals
          go_ret
          exact ⟨by first | rfl | (simp; done) | (simp [*]; done) | (simp_all; done), (by repeat (first | exact Below.refl _ _ | refine below_alloc ?_ _))⟩
set_option maxRecDepth 100000 in
set_option maxHeartbeats 4000000 in
theorem refI_6 (c : Co) (x : Ins) (w : World) (hb : Bnd c) (hx : x.op = 6) (hz : wB x.at_ 0 8192 = true) : Calls Tryd.prog 42 #[c.agg, x.agg] w (Ret w (.bool (wB x.a 0 ((c.places.length : Int) - 1) && (decide (x.b = 0) && decide (x.bits = 0))))) := by
  have b1 := hb.np
  have b2 := hb.m0
  have b3 := hb.m1
  have b4 := hb.a0
  have b5 := hb.a1
  have b6 := hb.nc
  have b7 := hb.nf
  have b8 := hb.nb
  clear hb
  obtain ⟨op, a, b, bits, at_⟩ := x
  unfold Co.agg Ins.agg
  dsimp only at hx hz ⊢
  subst hx
  obtain ⟨t0, t1⟩ := (wB_iff _ _ _).1 hz
  have e0 : decide (at_ < 0) = false := decide_eq_false (by omega)
  have e1 : decide (8192 < at_) = false := decide_eq_false (by omega)
  clear hz
  obtain ⟨y0, hy0⟩ : ∃ y, wB a 0 ((c.places.length : Int) - 1) = y := ⟨_, rfl⟩
  rw [hy0]
  have HY0 : Hid (wB a 0 ((c.places.length : Int) - 1) = y0) := hy0
  clear hy0
  cases y0
  · go_enter Tryd.func42, Tryd.ntmps42
    go_wp2_with fail
    refine (in_any _ _ _).mono ?_
    rintro e w' ⟨rfl, rfl⟩
    rw [HY0.out]
    go_wp2_with fail
    all_goals
      go_ret
      exact ⟨by first | rfl | (simp; done) | (simp [*]; done) | (simp_all; done), (by repeat (first | exact Below.refl _ _ | refine below_alloc ?_ _))⟩
  · by_cases hb : b = 0
    · have zb : (b == 0) = true := by simpa using hb
      by_cases hbits : bits = 0
      · have zbits : (bits == 0) = true := by simpa using hbits
        go_enter Tryd.func42, Tryd.ntmps42
        go_wp2_with fail
        refine (in_any _ _ _).mono ?_
        rintro e w' ⟨rfl, rfl⟩
        rw [HY0.out]
        go_wp2_with fail
        all_goals
          go_ret
          exact ⟨by first | rfl | (simp; done) | (simp [*]; done) | (simp_all; done), (by repeat (first | exact Below.refl _ _ | refine below_alloc ?_ _))⟩
      · have zbits : (bits == 0) = false := by simpa using hbits
        go_enter Tryd.func42, Tryd.ntmps42
        go_wp2_with fail
        refine (in_any _ _ _).mono ?_
        rintro e w' ⟨rfl, rfl⟩
        rw [HY0.out]
        go_wp2_with fail
        all_goals
          go_ret
          exact ⟨by first | rfl | (simp; done) | (simp [*]; done) | (simp_all; done), (by repeat (first | exact Below.refl _ _ | refine below_alloc ?_ _))⟩
    · have zb : (b == 0) = false := by simpa using hb
      by_cases hbits : bits = 0
      · have zbits : (bits == 0) = true := by simpa using hbits
        go_enter Tryd.func42, Tryd.ntmps42
        go_wp2_with fail
        refine (in_any _ _ _).mono ?_
        rintro e w' ⟨rfl, rfl⟩
        rw [HY0.out]
        go_wp2_with fail
        all_goals
          go_ret
          exact ⟨by first | rfl | (simp; done) | (simp [*]; done) | (simp_all; done), (by repeat (first | exact Below.refl _ _ | refine below_alloc ?_ _))⟩
      · have zbits : (bits == 0) = false := by simpa using hbits
        go_enter Tryd.func42, Tryd.ntmps42
        go_wp2_with fail
        refine (in_any _ _ _).mono ?_
        rintro e w' ⟨rfl, rfl⟩
        rw [HY0.out]
        go_wp2_with fail
        all_goals
          go_ret
          exact ⟨by first | rfl | (simp; done) | (simp [*]; done) | (simp_all; done), (by repeat (first | exact Below.refl _ _ | refine below_alloc ?_ _))⟩
set_option maxRecDepth 100000 in
set_option maxHeartbeats 4000000 in
theorem refI_7 (c : Co) (x : Ins) (w : World) (hb : Bnd c) (hx : x.op = 7) (hz : wB x.at_ 0 8192 = true) : Calls Tryd.prog 42 #[c.agg, x.agg] w (Ret w (.bool (wB x.a 0 ((c.places.length : Int) - 1) && (decide (x.b = 0) && decide (x.bits = 0))))) := by
  have b1 := hb.np
  have b2 := hb.m0
  have b3 := hb.m1
  have b4 := hb.a0
  have b5 := hb.a1
  have b6 := hb.nc
  have b7 := hb.nf
  have b8 := hb.nb
  clear hb
  obtain ⟨op, a, b, bits, at_⟩ := x
  unfold Co.agg Ins.agg
  dsimp only at hx hz ⊢
  subst hx
  obtain ⟨t0, t1⟩ := (wB_iff _ _ _).1 hz
  have e0 : decide (at_ < 0) = false := decide_eq_false (by omega)
  have e1 : decide (8192 < at_) = false := decide_eq_false (by omega)
  clear hz
  obtain ⟨y0, hy0⟩ : ∃ y, wB a 0 ((c.places.length : Int) - 1) = y := ⟨_, rfl⟩
  rw [hy0]
  have HY0 : Hid (wB a 0 ((c.places.length : Int) - 1) = y0) := hy0
  clear hy0
  cases y0
  · go_enter Tryd.func42, Tryd.ntmps42
    go_wp2_with fail
    refine (in_any _ _ _).mono ?_
    rintro e w' ⟨rfl, rfl⟩
    rw [HY0.out]
    go_wp2_with fail
    all_goals
      go_ret
      exact ⟨by first | rfl | (simp; done) | (simp [*]; done) | (simp_all; done), (by repeat (first | exact Below.refl _ _ | refine below_alloc ?_ _))⟩
  · by_cases hb : b = 0
    · have zb : (b == 0) = true := by simpa using hb
      by_cases hbits : bits = 0
      · have zbits : (bits == 0) = true := by simpa using hbits
        go_enter Tryd.func42, Tryd.ntmps42
        go_wp2_with fail
        refine (in_any _ _ _).mono ?_
        rintro e w' ⟨rfl, rfl⟩
        rw [HY0.out]
        go_wp2_with fail
        all_goals
          go_ret
          exact ⟨by first | rfl | (simp; done) | (simp [*]; done) | (simp_all; done), (by repeat (first | exact Below.refl _ _ | refine below_alloc ?_ _))⟩
      · have zbits : (bits == 0) = false := by simpa using hbits
        go_enter Tryd.func42, Tryd.ntmps42
        go_wp2_with fail
        refine (in_any _ _ _).mono ?_
        rintro e w' ⟨rfl, rfl⟩
        rw [HY0.out]
        go_wp2_with fail
        all_goals
          go_ret
          exact ⟨by first | rfl | (simp; done) | (simp [*]; done) | (simp_all; done), (by repeat (first | exact Below.refl _ _ | refine below_alloc ?_ _))⟩
    · have zb : (b == 0) = false := by simpa using hb
      by_cases hbits : bits = 0
      · have zbits : (bits == 0) = true := by simpa using hbits
        go_enter Tryd.func42, Tryd.ntmps42
        go_wp2_with fail
        refine (in_any _ _ _).mono ?_
        rintro e w' ⟨rfl, rfl⟩
        rw [HY0.out]
        go_wp2_with fail
        all_goals
          go_ret
          exact ⟨by first | rfl | (simp; done) | (simp [*]; done) | (simp_all; done), (by repeat (first | exact Below.refl _ _ | refine below_alloc ?_ _))⟩
      · have zbits : (bits == 0) = false := by simpa using hbits
        go_enter Tryd.func42, Tryd.ntmps42
        go_wp2_with fail
        refine (in_any _ _ _).mono ?_
        rintro e w' ⟨rfl, rfl⟩
        rw [HY0.out]
        go_wp2_with fail
        all_goals
          go_ret
          exact ⟨by first | rfl | (simp; done) | (simp [*]; done) | (simp_all; done), (by repeat (first | exact Below.refl _ _ | refine below_alloc ?_ _))⟩
set_option maxRecDepth 100000 in
set_option maxHeartbeats 4000000 in
theorem refI_12 (c : Co) (x : Ins) (w : World) (hb : Bnd c) (hx : x.op = 12) (hz : wB x.at_ 0 8192 = true) : Calls Tryd.prog 42 #[c.agg, x.agg] w (Ret w (.bool (wB x.a 0 ((c.body.length : Int) - 1) && (decide (x.b = 0) && decide (x.bits = 0))))) := by
  have b1 := hb.np
  have b2 := hb.m0
  have b3 := hb.m1
  have b4 := hb.a0
  have b5 := hb.a1
  have b6 := hb.nc
  have b7 := hb.nf
  have b8 := hb.nb
  clear hb
  obtain ⟨op, a, b, bits, at_⟩ := x
  unfold Co.agg Ins.agg
  dsimp only at hx hz ⊢
  subst hx
  obtain ⟨t0, t1⟩ := (wB_iff _ _ _).1 hz
  have e0 : decide (at_ < 0) = false := decide_eq_false (by omega)
  have e1 : decide (8192 < at_) = false := decide_eq_false (by omega)
  clear hz
  obtain ⟨y0, hy0⟩ : ∃ y, wB a 0 ((c.body.length : Int) - 1) = y := ⟨_, rfl⟩
  rw [hy0]
  have HY0 : Hid (wB a 0 ((c.body.length : Int) - 1) = y0) := hy0
  clear hy0
  cases y0
  · go_enter Tryd.func42, Tryd.ntmps42
    go_wp2_with fail
    refine (in_any _ _ _).mono ?_
    rintro e w' ⟨rfl, rfl⟩
    rw [HY0.out]
    go_wp2_with fail
    all_goals
      go_ret
      exact ⟨by first | rfl | (simp; done) | (simp [*]; done) | (simp_all; done), (by repeat (first | exact Below.refl _ _ | refine below_alloc ?_ _))⟩
  · by_cases hb : b = 0
    · have zb : (b == 0) = true := by simpa using hb
      by_cases hbits : bits = 0
      · have zbits : (bits == 0) = true := by simpa using hbits
        go_enter Tryd.func42, Tryd.ntmps42
        go_wp2_with fail
        refine (in_any _ _ _).mono ?_
        rintro e w' ⟨rfl, rfl⟩
        rw [HY0.out]
        go_wp2_with fail
        all_goals
          go_ret
          exact ⟨by first | rfl | (simp; done) | (simp [*]; done) | (simp_all; done), (by repeat (first | exact Below.refl _ _ | refine below_alloc ?_ _))⟩
      · have zbits : (bits == 0) = false := by simpa using hbits
        go_enter Tryd.func42, Tryd.ntmps42
        go_wp2_with fail
        refine (in_any _ _ _).mono ?_
        rintro e w' ⟨rfl, rfl⟩
        rw [HY0.out]
        go_wp2_with fail
        all_goals
          go_ret
          exact ⟨by first | rfl | (simp; done) | (simp [*]; done) | (simp_all; done), (by repeat (first | exact Below.refl _ _ | refine below_alloc ?_ _))⟩
    · have zb : (b == 0) = false := by simpa using hb
      by_cases hbits : bits = 0
      · have zbits : (bits == 0) = true := by simpa using hbits
        go_enter Tryd.func42, Tryd.ntmps42
        go_wp2_with fail
        refine (in_any _ _ _).mono ?_
        rintro e w' ⟨rfl, rfl⟩
        rw [HY0.out]
        go_wp2_with fail
        all_goals
          go_ret
          exact ⟨by first | rfl | (simp; done) | (simp [*]; done) | (simp_all; done), (by repeat (first | exact Below.refl _ _ | refine below_alloc ?_ _))⟩
      · have zbits : (bits == 0) = false := by simpa using hbits
        go_enter Tryd.func42, Tryd.ntmps42
        go_wp2_with fail
        refine (in_any _ _ _).mono ?_
        rintro e w' ⟨rfl, rfl⟩
        rw [HY0.out]
        go_wp2_with fail
        all_goals
          go_ret
          exact ⟨by first | rfl | (simp; done) | (simp [*]; done) | (simp_all; done), (by repeat (first | exact Below.refl _ _ | refine below_alloc ?_ _))⟩
end Go.Proofs.YtbpbimkadiobfaaDoor
