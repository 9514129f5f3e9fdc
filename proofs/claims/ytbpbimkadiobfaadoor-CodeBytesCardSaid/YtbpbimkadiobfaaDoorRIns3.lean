/-
  The document's answer on an instruction, by its number (19, 20, 21, 22, 23, 24, 25, 26).
-/
import Derived.Test.YtbpbimkadiobfaaDoorRIns0
import Derived.Deep.RegionLaw
import Derived.ChangeAlike
namespace Go.Proofs.YtbpbimkadiobfaaDoor
open Go.RowKit Go.Stk

set_option maxRecDepth 100000 in
set_option maxHeartbeats 4000000 in
theorem refI_19 (c : Co) (x : Ins) (w : World) (hb : Bnd c) (hx : x.op = 19) (hz : wB x.at_ 0 8192 = true) : Calls Tryd.prog 42 #[c.agg, x.agg] w (Ret w (.bool (wB x.a 0 (c.ato - 1) && (decide (x.b = 0) && decide (x.bits = 0))))) := by
  have b1 := hb.np
  have b2 := hb.m0
  have b3 := hb.m1
  have b4 := hb.a0
  have b5 := hb.a1
  have b6 := hb.nc
  have b7 := hb.nf
  have b8 := hb.nb
  clear hb
  obtain ⟨op, a, b, bits, at_⟩ := x
  unfold Co.agg Ins.agg
  dsimp only at hx hz ⊢
  subst hx
  obtain ⟨t0, t1⟩ := (wB_iff _ _ _).1 hz
  have e0 : decide (at_ < 0) = false := decide_eq_false (by omega)
  have e1 : decide (8192 < at_) = false := decide_eq_false (by omega)
  clear hz
  obtain ⟨y0, hy0⟩ : ∃ y, wB a 0 (c.ato - 1) = y := ⟨_, rfl⟩
  rw [hy0]
  have HY0 : Hid (wB a 0 (c.ato - 1) = y0) := hy0
  clear hy0
  cases y0
  · go_enter Tryd.func42, Tryd.ntmps42
    go_wp2_with fail
    refine (in_any _ _ _).mono ?_
    rintro e w' ⟨rfl, rfl⟩
    rw [HY0.out]
    go_wp2_with fail
    all_goals
      go_ret
      exact ⟨by first | rfl | (simp; done) | (simp [*]; done) | (simp_all; done), (by repeat (first | exact Below.refl _ _ | refine below_alloc ?_ _))⟩
  · by_cases hb : b = 0
    · have zb : (b == 0) = true := by simpa using hb
      by_cases hbits : bits = 0
      · have zbits : (bits == 0) = true := by simpa using hbits
        go_enter Tryd.func42, Tryd.ntmps42
        go_wp2_with fail
        refine (in_any _ _ _).mono ?_
        rintro e w' ⟨rfl, rfl⟩
        rw [HY0.out]
        go_wp2_with fail
        all_goals
          go_ret
          exact ⟨by first | rfl | (simp; done) | (simp [*]; done) | (simp_all; done), (by repeat (first | exact Below.refl _ _ | refine below_alloc ?_ _))⟩
      · have zbits : (bits == 0) = false := by simpa using hbits
        go_enter Tryd.func42, Tryd.ntmps42
        go_wp2_with fail
        refine (in_any _ _ _).mono ?_
        rintro e w' ⟨rfl, rfl⟩
        rw [HY0.out]
        go_wp2_with fail
        all_goals
          go_ret
          exact ⟨by first | rfl | (simp; done) | (simp [*]; done) | (simp_all; done), (by repeat (first | exact Below.refl _ _ | refine below_alloc ?_ _))⟩
    · have zb : (b == 0) = false := by simpa using hb
      by_cases hbits : bits = 0
      · have zbits : (bits == 0) = true := by simpa using hbits
        go_enter Tryd.func42, Tryd.ntmps42
        go_wp2_with fail
        refine (in_any _ _ _).mono ?_
        rintro e w' ⟨rfl, rfl⟩
        rw [HY0.out]
        go_wp2_with fail
        all_goals
          go_ret
          exact ⟨by first | rfl | (simp; done) | (simp [*]; done) | (simp_all; done), (by repeat (first | exact Below.refl _ _ | refine below_alloc ?_ _))⟩
      · have zbits : (bits == 0) = false := by simpa using hbits
        go_enter Tryd.func42, Tryd.ntmps42
        go_wp2_with fail
        refine (in_any _ _ _).mono ?_
        rintro e w' ⟨rfl, rfl⟩
        rw [HY0.out]
        go_wp2_with fail
        all_goals
          go_ret
          exact ⟨by first | rfl | (simp; done) | (simp [*]; done) | (simp_all; done), (by repeat (first | exact Below.refl _ _ | refine below_alloc ?_ _))⟩
set_option maxRecDepth 100000 in
set_option maxHeartbeats 4000000 in
theorem refI_20 (c : Co) (x : Ins) (w : World) (hb : Bnd c) (hx : x.op = 20) (hz : wB x.at_ 0 8192 = true) : Calls Tryd.prog 42 #[c.agg, x.agg] w (Ret w (.bool (wB x.a 0 (c.ato - 1) && (decide (x.b = 0) && decide (x.bits = 0))))) := by
  have b1 := hb.np
  have b2 := hb.m0
  have b3 := hb.m1
  have b4 := hb.a0
  have b5 := hb.a1
  have b6 := hb.nc
  have b7 := hb.nf
  have b8 := hb.nb
  clear hb
  obtain ⟨op, a, b, bits, at_⟩ := x
  unfold Co.agg Ins.agg
  dsimp only at hx hz ⊢
  subst hx
  obtain ⟨t0, t1⟩ := (wB_iff _ _ _).1 hz
  have e0 : decide (at_ < 0) = false := decide_eq_false (by omega)
  have e1 : decide (8192 < at_) = false := decide_eq_false (by omega)
  clear hz
  obtain ⟨y0, hy0⟩ : ∃ y, wB a 0 (c.ato - 1) = y := ⟨_, rfl⟩
  rw [hy0]
  have HY0 : Hid (wB a 0 (c.ato - 1) = y0) := hy0
  clear hy0
  cases y0
  · go_enter Tryd.func42, Tryd.ntmps42
    go_wp2_with fail
    refine (in_any _ _ _).mono ?_
    rintro e w' ⟨rfl, rfl⟩
    rw [HY0.out]
    go_wp2_with fail
    all_goals
      go_ret
      exact ⟨by first | rfl | (simp; done) | (simp [*]; done) | (simp_all; done), (by repeat (first | exact Below.refl _ _ | refine below_alloc ?_ _))⟩
  · by_cases hb : b = 0
    · have zb : (b == 0) = true := by simpa using hb
      by_cases hbits : bits = 0
      · have zbits : (bits == 0) = true := by simpa using hbits
        go_enter Tryd.func42, Tryd.ntmps42
        go_wp2_with fail
        refine (in_any _ _ _).mono ?_
        rintro e w' ⟨rfl, rfl⟩
        rw [HY0.out]
        go_wp2_with fail
        all_goals
          go_ret
          exact ⟨by first | rfl | (simp; done) | (simp [*]; done) | (simp_all; done), (by repeat (first | exact Below.refl _ _ | refine below_alloc ?_ _))⟩
      · have zbits : (bits == 0) = false := by simpa using hbits
        go_enter Tryd.func42, Tryd.ntmps42
        go_wp2_with fail
        refine (in_any _ _ _).mono ?_
        rintro e w' ⟨rfl, rfl⟩
        rw [HY0.out]
        go_wp2_with fail
        all_goals
          go_ret
          exact ⟨by first | rfl | (simp; done) | (simp [*]; done) | (simp_all; done), (by repeat (first | exact Below.refl _ _ | refine below_alloc ?_ _))⟩
    · have zb : (b == 0) = false := by simpa using hb
      by_cases hbits : bits = 0
      · have zbits : (bits == 0) = true := by simpa using hbits
        go_enter Tryd.func42, Tryd.ntmps42
        go_wp2_with fail
        refine (in_any _ _ _).mono ?_
        rintro e w' ⟨rfl, rfl⟩
        rw [HY0.out]
        go_wp2_with fail
        all_goals
          go_ret
          exact ⟨by first | rfl | (simp; done) | (simp [*]; done) | (simp_all; done), (by repeat (first | exact Below.refl _ _ | refine below_alloc ?_ _))⟩
      · have zbits : (bits == 0) = false := by simpa using hbits
        go_enter Tryd.func42, Tryd.ntmps42
        go_wp2_with fail
        refine (in_any _ _ _).mono ?_
        rintro e w' ⟨rfl, rfl⟩
        rw [HY0.out]
        go_wp2_with fail
        all_goals
          go_ret
          exact ⟨by first | rfl | (simp; done) | (simp [*]; done) | (simp_all; done), (by repeat (first | exact Below.refl _ _ | refine below_alloc ?_ _))⟩
set_option maxRecDepth 100000 in
set_option maxHeartbeats 4000000 in
theorem refI_21 (c : Co) (x : Ins) (w : World) (hb : Bnd c) (hx : x.op = 21) (hz : wB x.at_ 0 8192 = true) : Calls Tryd.prog 42 #[c.agg, x.agg] w (Ret w (.bool (wB x.a 0 (c.ato - 1) && (decide (x.b = 0) && decide (x.bits = 0))))) := by
  have b1 := hb.np
  have b2 := hb.m0
  have b3 := hb.m1
  have b4 := hb.a0
  have b5 := hb.a1
  have b6 := hb.nc
  have b7 := hb.nf
  have b8 := hb.nb
  clear hb
  obtain ⟨op, a, b, bits, at_⟩ := x
  unfold Co.agg Ins.agg
  dsimp only at hx hz ⊢
  subst hx
  obtain ⟨t0, t1⟩ := (wB_iff _ _ _).1 hz
  have e0 : decide (at_ < 0) = false := decide_eq_false (by omega)
  have e1 : decide (8192 < at_) = false := decide_eq_false (by omega)
  clear hz
  obtain ⟨y0, hy0⟩ : ∃ y, wB a 0 (c.ato - 1) = y := ⟨_, rfl⟩
  rw [hy0]
  have HY0 : Hid (wB a 0 (c.ato - 1) = y0) := hy0
  clear hy0
  cases y0
  · go_enter Tryd.func42, Tryd.ntmps42
    go_wp2_with fail
    refine (in_any _ _ _).mono ?_
    rintro e w' ⟨rfl, rfl⟩
    rw [HY0.out]
    go_wp2_with fail
    all_goals
      go_ret
      exact ⟨by first | rfl | (simp; done) | (simp [*]; done) | (simp_all; done), (by repeat (first | exact Below.refl _ _ | refine below_alloc ?_ _))⟩
  · by_cases hb : b = 0
    · have zb : (b == 0) = true := by simpa using hb
      by_cases hbits : bits = 0
      · have zbits : (bits == 0) = true := by simpa using hbits
        go_enter Tryd.func42, Tryd.ntmps42
        go_wp2_with fail
        refine (in_any _ _ _).mono ?_
        rintro e w' ⟨rfl, rfl⟩
        rw [HY0.out]
        go_wp2_with fail
        all_goals
          go_ret
          exact ⟨by first | rfl | (simp; done) | (simp [*]; done) | (simp_all; done), (by repeat (first | exact Below.refl _ _ | refine below_alloc ?_ _))⟩
      · have zbits : (bits == 0) = false := by simpa using hbits
        go_enter Tryd.func42, Tryd.ntmps42
        go_wp2_with fail
        refine (in_any _ _ _).mono ?_
        rintro e w' ⟨rfl, rfl⟩
        rw [HY0.out]
        go_wp2_with fail
        all_goals
          go_ret
          exact ⟨by first | rfl | (simp; done) | (simp [*]; done) | (simp_all; done), (by repeat (first | exact Below.refl _ _ | refine below_alloc ?_ _))⟩
    · have zb : (b == 0) = false := by simpa using hb
      by_cases hbits : bits = 0
      · have zbits : (bits == 0) = true := by simpa using hbits
        go_enter Tryd.func42, Tryd.ntmps42
        go_wp2_with fail
        refine (in_any _ _ _).mono ?_
        rintro e w' ⟨rfl, rfl⟩
        rw [HY0.out]
        go_wp2_with fail
        all_goals
          go_ret
          exact ⟨by first | rfl | (simp; done) | (simp [*]; done) | (simp_all; done), (by repeat (first | exact Below.refl _ _ | refine below_alloc ?_ _))⟩
      · have zbits : (bits == 0) = false := by simpa using hbits
        go_enter Tryd.func42, Tryd.ntmps42
        go_wp2_with fail
        refine (in_any _ _ _).mono ?_
        rintro e w' ⟨rfl, rfl⟩
        rw [HY0.out]
        go_wp2_with fail
        all_goals
          go_ret
          exact ⟨by first | rfl | (simp; done) | (simp [*]; done) | (simp_all; done), (by repeat (first | exact Below.refl _ _ | refine below_alloc ?_ _))⟩
set_option maxRecDepth 100000 in
set_option maxHeartbeats 4000000 in
theorem refI_22 (c : Co) (x : Ins) (w : World) (hb : Bnd c) (hx : x.op = 22) (hz : wB x.at_ 0 8192 = true) : Calls Tryd.prog 42 #[c.agg, x.agg] w (Ret w (.bool (wB x.a 0 ((c.funcs.length : Int) - 1) && (decide (x.b = 0) && decide (x.bits = 0))))) := by
  have b1 := hb.np
  have b2 := hb.m0
  have b3 := hb.m1
  have b4 := hb.a0
  have b5 := hb.a1
  have b6 := hb.nc
  have b7 := hb.nf
  have b8 := hb.nb
  clear hb
  obtain ⟨op, a, b, bits, at_⟩ := x
  unfold Co.agg Ins.agg
  dsimp only at hx hz ⊢
  subst hx
  obtain ⟨t0, t1⟩ := (wB_iff _ _ _).1 hz
  have e0 : decide (at_ < 0) = false := decide_eq_false (by omega)
  have e1 : decide (8192 < at_) = false := decide_eq_false (by omega)
  clear hz
  obtain ⟨y0, hy0⟩ : ∃ y, wB a 0 ((c.funcs.length : Int) - 1) = y := ⟨_, rfl⟩
  rw [hy0]
  have HY0 : Hid (wB a 0 ((c.funcs.length : Int) - 1) = y0) := hy0
  clear hy0
  cases y0
  · go_enter Tryd.func42, Tryd.ntmps42
    go_wp2_with fail
    refine (in_any _ _ _).mono ?_
    rintro e w' ⟨rfl, rfl⟩
    rw [HY0.out]
    go_wp2_with fail
    all_goals
      go_ret
      exact ⟨by first | rfl | (simp; done) | (simp [*]; done) | (simp_all; done), (by repeat (first | exact Below.refl _ _ | refine below_alloc ?_ _))⟩
  · by_cases hb : b = 0
    · have zb : (b == 0) = true := by simpa using hb
      by_cases hbits : bits = 0
      · have zbits : (bits == 0) = true := by simpa using hbits
        go_enter Tryd.func42, Tryd.ntmps42
        go_wp2_with fail
        refine (in_any _ _ _).mono ?_
        rintro e w' ⟨rfl, rfl⟩
        rw [HY0.out]
        go_wp2_with fail
        all_goals
          go_ret
          exact ⟨by first | rfl | (simp; done) | (simp [*]; done) | (simp_all; done), (by repeat (first | exact Below.refl _ _ | refine below_alloc ?_ _))⟩
      · have zbits : (bits == 0) = false := by simpa using hbits
        go_enter Tryd.func42, Tryd.ntmps42
        go_wp2_with fail
        refine (in_any _ _ _).mono ?_
        rintro e w' ⟨rfl, rfl⟩
        rw [HY0.out]
        go_wp2_with fail
        all_goals
          go_ret
          exact ⟨by first | rfl | (simp; done) | (simp [*]; done) | (simp_all; done), (by repeat (first | exact Below.refl _ _ | refine below_alloc ?_ _))⟩
    · have zb : (b == 0) = false := by simpa using hb
      by_cases hbits : bits = 0
      · have zbits : (bits == 0) = true := by simpa using hbits
        go_enter Tryd.func42, Tryd.ntmps42
        go_wp2_with fail
        refine (in_any _ _ _).mono ?_
        rintro e w' ⟨rfl, rfl⟩
        rw [HY0.out]
        go_wp2_with fail
        all_goals
          go_ret
          exact ⟨by first | rfl | (simp; done) | (simp [*]; done) | (simp_all; done), (by repeat (first | exact Below.refl _ _ | refine below_alloc ?_ _))⟩
      · have zbits : (bits == 0) = false := by simpa using hbits
        go_enter Tryd.func42, Tryd.ntmps42
        go_wp2_with fail
        refine (in_any _ _ _).mono ?_
        rintro e w' ⟨rfl, rfl⟩
        rw [HY0.out]
        go_wp2_with fail
        all_goals
          go_ret
          exact ⟨by first | rfl | (simp; done) | (simp [*]; done) | (simp_all; done), (by repeat (first | exact Below.refl _ _ | refine below_alloc ?_ _))⟩
set_option maxRecDepth 100000 in
set_option maxHeartbeats 4000000 in
theorem refI_23 (c : Co) (x : Ins) (w : World) (hb : Bnd c) (hx : x.op = 23) (hz : wB x.at_ 0 8192 = true) : Calls Tryd.prog 42 #[c.agg, x.agg] w (Ret w (.bool (wB x.a 0 ((c.funcs.length : Int) - 1) && (decide (x.b = 0) && decide (x.bits = 0))))) := by
  have b1 := hb.np
  have b2 := hb.m0
  have b3 := hb.m1
  have b4 := hb.a0
  have b5 := hb.a1
  have b6 := hb.nc
  have b7 := hb.nf
  have b8 := hb.nb
  clear hb
  obtain ⟨op, a, b, bits, at_⟩ := x
  unfold Co.agg Ins.agg
  dsimp only at hx hz ⊢
  subst hx
  obtain ⟨t0, t1⟩ := (wB_iff _ _ _).1 hz
  have e0 : decide (at_ < 0) = false := decide_eq_false (by omega)
  have e1 : decide (8192 < at_) = false := decide_eq_false (by omega)
  clear hz
  obtain ⟨y0, hy0⟩ : ∃ y, wB a 0 ((c.funcs.length : Int) - 1) = y := ⟨_, rfl⟩
  rw [hy0]
  have HY0 : Hid (wB a 0 ((c.funcs.length : Int) - 1) = y0) := hy0
  clear hy0
  cases y0
  · go_enter Tryd.func42, Tryd.ntmps42
    go_wp2_with fail
    refine (in_any _ _ _).mono ?_
    rintro e w' ⟨rfl, rfl⟩
    rw [HY0.out]
    go_wp2_with fail
    all_goals
      go_ret
      exact ⟨by first | rfl | (simp; done) | (simp [*]; done) | (simp_all; done), (by repeat (first | exact Below.refl _ _ | refine below_alloc ?_ _))⟩
  · by_cases hb : b = 0
    · have zb : (b == 0) = true := by simpa using hb
      by_cases hbits : bits = 0
      · have zbits : (bits == 0) = true := by simpa using hbits
        go_enter Tryd.func42, Tryd.ntmps42
        go_wp2_with fail
        refine (in_any _ _ _).mono ?_
        rintro e w' ⟨rfl, rfl⟩
        rw [HY0.out]
        go_wp2_with fail
        all_goals
          go_ret
          exact ⟨by first | rfl | (simp; done) | (simp [*]; done) | (simp_all; done), (by repeat (first | exact Below.refl _ _ | refine below_alloc ?_ _))⟩
      · have zbits : (bits == 0) = false := by simpa using hbits
        go_enter Tryd.func42, Tryd.ntmps42
        go_wp2_with fail
        refine (in_any _ _ _).mono ?_
        rintro e w' ⟨rfl, rfl⟩
        rw [HY0.out]
        go_wp2_with fail
        all_goals
          go_ret
          exact ⟨by first | rfl | (simp; done) | (simp [*]; done) | (simp_all; done), (by repeat (first | exact Below.refl _ _ | refine below_alloc ?_ _))⟩
    · have zb : (b == 0) = false := by simpa using hb
      by_cases hbits : bits = 0
      · have zbits : (bits == 0) = true := by simpa using hbits
        go_enter Tryd.func42, Tryd.ntmps42
        go_wp2_with fail
        refine (in_any _ _ _).mono ?_
        rintro e w' ⟨rfl, rfl⟩
        rw [HY0.out]
        go_wp2_with fail
        all_goals
          go_ret
          exact ⟨by first | rfl | (simp; done) | (simp [*]; done) | (simp_all; done), (by repeat (first | exact Below.refl _ _ | refine below_alloc ?_ _))⟩
      · have zbits : (bits == 0) = false := by simpa using hbits
        go_enter Tryd.func42, Tryd.ntmps42
        go_wp2_with fail
        refine (in_any _ _ _).mono ?_
        rintro e w' ⟨rfl, rfl⟩
        rw [HY0.out]
        go_wp2_with fail
        all_goals
          go_ret
          exact ⟨by first | rfl | (simp; done) | (simp [*]; done) | (simp_all; done), (by repeat (first | exact Below.refl _ _ | refine below_alloc ?_ _))⟩
set_option maxRecDepth 100000 in
set_option maxHeartbeats 4000000 in
theorem refI_24 (c : Co) (x : Ins) (w : World) (hb : Bnd c) (hx : x.op = 24) (hz : wB x.at_ 0 8192 = true) : Calls Tryd.prog 42 #[c.agg, x.agg] w (Ret w (.bool (decide (x.a = 0) && (decide (x.b = 0) && decide (x.bits = 0))))) := by
  have b1 := hb.np
  have b2 := hb.m0
  have b3 := hb.m1
  have b4 := hb.a0
  have b5 := hb.a1
  have b6 := hb.nc
  have b7 := hb.nf
  have b8 := hb.nb
  clear hb
  obtain ⟨op, a, b, bits, at_⟩ := x
  unfold Co.agg Ins.agg
  dsimp only at hx hz ⊢
  subst hx
  obtain ⟨t0, t1⟩ := (wB_iff _ _ _).1 hz
  have e0 : decide (at_ < 0) = false := decide_eq_false (by omega)
  have e1 : decide (8192 < at_) = false := decide_eq_false (by omega)
  clear hz
  by_cases ha : a = 0
  · have za : (a == 0) = true := by simpa using ha
    by_cases hb : b = 0
    · have zb : (b == 0) = true := by simpa using hb
      by_cases hbits : bits = 0
      · have zbits : (bits == 0) = true := by simpa using hbits
        go_enter Tryd.func42, Tryd.ntmps42
        go_wp2_with fail
        all_goals
          go_ret
          exact ⟨by first | rfl | (simp; done) | (simp [*]; done) | (simp_all; done), (by repeat (first | exact Below.refl _ _ | refine below_alloc ?_ _))⟩
      · have zbits : (bits == 0) = false := by simpa using hbits
        go_enter Tryd.func42, Tryd.ntmps42
        go_wp2_with fail
        all_goals
          go_ret
          exact ⟨by first | rfl | (simp; done) | (simp [*]; done) | (simp_all; done), (by repeat (first | exact Below.refl _ _ | refine below_alloc ?_ _))⟩
    · have zb : (b == 0) = false := by simpa using hb
      by_cases hbits : bits = 0
      · have zbits : (bits == 0) = true := by simpa using hbits
        go_enter Tryd.func42, Tryd.ntmps42
        go_wp2_with fail
        all_goals
          go_ret
          exact ⟨by first | rfl | (simp; done) | (simp [*]; done) | (simp_all; done), (by repeat (first | exact Below.refl _ _ | refine below_alloc ?_ _))⟩
      · have zbits : (bits == 0) = false := by simpa using hbits
        go_enter Tryd.func42, Tryd.ntmps42
        go_wp2_with fail
        all_goals
          go_ret
          exact ⟨by first | rfl | (simp; done) | (simp [*]; done) | (simp_all; done), (by repeat (first | exact Below.refl _ _ | refine below_alloc ?_ _))⟩
  · have za : (a == 0) = false := by simpa using ha
    by_cases hb : b = 0
    · have zb : (b == 0) = true := by simpa using hb
      by_cases hbits : bits = 0
      · have zbits : (bits == 0) = true := by simpa using hbits
        go_enter Tryd.func42, Tryd.ntmps42
        go_wp2_with fail
        all_goals
          go_ret
          exact ⟨by first | rfl | (simp; done) | (simp [*]; done) | (simp_all; done), (by repeat (first | exact Below.refl _ _ | refine below_alloc ?_ _))⟩
      · have zbits : (bits == 0) = false := by simpa using hbits
        go_enter Tryd.func42, Tryd.ntmps42
        go_wp2_with fail
        all_goals
          go_ret
          exact ⟨by first | rfl | (simp; done) | (simp [*]; done) | (simp_all; done), (by repeat (first | exact Below.refl _ _ | refine below_alloc ?_ _))⟩
    · have zb : (b == 0) = false := by simpa using hb
      by_cases hbits : bits = 0
      · have zbits : (bits == 0) = true := by simpa using hbits
        go_enter Tryd.func42, Tryd.ntmps42
        go_wp2_with fail
        all_goals
          go_ret
          exact ⟨by first | rfl | (simp; done) | (simp [*]; done) | (simp_all; done), (by repeat (first | exact Below.refl _ _ | refine below_alloc ?_ _))⟩
      · have zbits : (bits == 0) = false := by simpa using hbits
        go_enter Tryd.func42, Tryd.ntmps42
        go_wp2_with fail
        all_goals
          go_ret
          exact ⟨by first | rfl | (simp; done) | (simp [*]; done) | (simp_all; done), (by repeat (first | exact Below.refl _ _ | refine below_alloc ?_ _))⟩
set_option maxRecDepth 100000 in
set_option maxHeartbeats 4000000 in
theorem refI_25 (c : Co) (x : Ins) (w : World) (hb : Bnd c) (hx : x.op = 25) (hz : wB x.at_ 0 8192 = true) : Calls Tryd.prog 42 #[c.agg, x.agg] w (Ret w (.bool (decide (x.a = 0) && (decide (x.b = 0) && decide (x.bits = 0))))) := by
  have b1 := hb.np
  have b2 := hb.m0
  have b3 := hb.m1
  have b4 := hb.a0
  have b5 := hb.a1
  have b6 := hb.nc
  have b7 := hb.nf
  have b8 := hb.nb
  clear hb
  obtain ⟨op, a, b, bits, at_⟩ := x
  unfold Co.agg Ins.agg
  dsimp only at hx hz ⊢
  subst hx
  obtain ⟨t0, t1⟩ := (wB_iff _ _ _).1 hz
  have e0 : decide (at_ < 0) = false := decide_eq_false (by omega)
  have e1 : decide (8192 < at_) = false := decide_eq_false (by omega)
  clear hz
  by_cases ha : a = 0
  · have za : (a == 0) = true := by simpa using ha
    by_cases hb : b = 0
    · have zb : (b == 0) = true := by simpa using hb
      by_cases hbits : bits = 0
      · have zbits : (bits == 0) = true := by simpa using hbits
        go_enter Tryd.func42, Tryd.ntmps42
        go_wp2_with fail
        all_goals
          go_ret
          exact ⟨by first | rfl | (simp; done) | (simp [*]; done) | (simp_all; done), (by repeat (first | exact Below.refl _ _ | refine below_alloc ?_ _))⟩
      · have zbits : (bits == 0) = false := by simpa using hbits
        go_enter Tryd.func42, Tryd.ntmps42
        go_wp2_with fail
        all_goals
          go_ret
          exact ⟨by first | rfl | (simp; done) | (simp [*]; done) | (simp_all; done), (by repeat (first | exact Below.refl _ _ | refine below_alloc ?_ _))⟩
    · have zb : (b == 0) = false := by simpa using hb
      by_cases hbits : bits = 0
      · have zbits : (bits == 0) = true := by simpa using hbits
        go_enter Tryd.func42, Tryd.ntmps42
        go_wp2_with fail
        all_goals
          go_ret
          exact ⟨by first | rfl | (simp; done) | (simp [*]; done) | (simp_all; done), (by repeat (first | exact Below.refl _ _ | refine below_alloc ?_ _))⟩
      · have zbits : (bits == 0) = false := by simpa using hbits
        go_enter Tryd.func42, Tryd.ntmps42
        go_wp2_with fail
        all_goals
          go_ret
          exact ⟨by first | rfl | (simp; done) | (simp [*]; done) | (simp_all; done), (by repeat (first | exact Below.refl _ _ | refine below_alloc ?_ _))⟩
  · have za : (a == 0) = false := by simpa using ha
    by_cases hb : b = 0
    · have zb : (b == 0) = true := by simpa using hb
      by_cases hbits : bits = 0
      · have zbits : (bits == 0) = true := by simpa using hbits
        go_enter Tryd.func42, Tryd.ntmps42
        go_wp2_with fail
        all_goals
          go_ret
          exact ⟨by first | rfl | (simp; done) | (simp [*]; done) | (simp_all; done), (by repeat (first | exact Below.refl _ _ | refine below_alloc ?_ _))⟩
      · have zbits : (bits == 0) = false := by simpa using hbits
        go_enter Tryd.func42, Tryd.ntmps42
        go_wp2_with fail
        all_goals
          go_ret
          exact ⟨by first | rfl | (simp; done) | (simp [*]; done) | (simp_all; done), (by repeat (first | exact Below.refl _ _ | refine below_alloc ?_ _))⟩
    · have zb : (b == 0) = false := by simpa using hb
      by_cases hbits : bits = 0
      · have zbits : (bits == 0) = true := by simpa using hbits
        go_enter Tryd.func42, Tryd.ntmps42
        go_wp2_with fail
        all_goals
          go_ret
          exact ⟨by first | rfl | (simp; done) | (simp [*]; done) | (simp_all; done), (by repeat (first | exact Below.refl _ _ | refine below_alloc ?_ _))⟩
      · have zbits : (bits == 0) = false := by simpa using hbits
        go_enter Tryd.func42, Tryd.ntmps42
        go_wp2_with fail
        all_goals
          go_ret
          exact ⟨by first | rfl | (simp; done) | (simp [*]; done) | (simp_all; done), (by repeat (first | exact Below.refl _ _ | refine below_alloc ?_ _))⟩
set_option maxRecDepth 100000 in
set_option maxHeartbeats 4000000 in
theorem refI_26 (c : Co) (x : Ins) (w : World) (hb : Bnd c) (hx : x.op = 26) (hz : wB x.at_ 0 8192 = true) : Calls Tryd.prog 42 #[c.agg, x.agg] w (Ret w (.bool (decide (x.a = 0) && (decide (x.b = 0) && decide (x.bits = 0))))) := by
  have b1 := hb.np
  have b2 := hb.m0
  have b3 := hb.m1
  have b4 := hb.a0
  have b5 := hb.a1
  have b6 := hb.nc
  have b7 := hb.nf
  have b8 := hb.nb
  clear hb
  obtain ⟨op, a, b, bits, at_⟩ := x
  unfold Co.agg Ins.agg
  dsimp only at hx hz ⊢
  subst hx
  obtain ⟨t0, t1⟩ := (wB_iff _ _ _).1 hz
  have e0 : decide (at_ < 0) = false := decide_eq_false (by omega)
  have e1 : decide (8192 < at_) = false := decide_eq_false (by omega)
  clear hz
  by_cases ha : a = 0
  · have za : (a == 0) = true := by simpa using ha
    by_cases hb : b = 0
    · have zb : (b == 0) = true := by simpa using hb
      by_cases hbits : bits = 0
      · have zbits : (bits == 0) = true := by simpa using hbits
        go_enter Tryd.func42, Tryd.ntmps42
        go_wp2_with fail
        all_goals
          go_ret
          exact ⟨by first | rfl | (simp; done) | (simp [*]; done) | (simp_all; done), (by repeat (first | exact Below.refl _ _ | refine below_alloc ?_ _))⟩
      · have zbits : (bits == 0) = false := by simpa using hbits
        go_enter Tryd.func42, Tryd.ntmps42
        go_wp2_with fail
        all_goals
          go_ret
          exact ⟨by first | rfl | (simp; done) | (simp [*]; done) | (simp_all; done), (by repeat (first | exact Below.refl _ _ | refine below_alloc ?_ _))⟩
    · have zb : (b == 0) = false := by simpa using hb
      by_cases hbits : bits = 0
      · have zbits : (bits == 0) = true := by simpa using hbits
        go_enter Tryd.func42, Tryd.ntmps42
        go_wp2_with fail
        all_goals
          go_ret
          exact ⟨by first | rfl | (simp; done) | (simp [*]; done) | (simp_all; done), (by repeat (first | exact Below.refl _ _ | refine below_alloc ?_ _))⟩
      · have zbits : (bits == 0) = false := by simpa using hbits
        go_enter Tryd.func42, Tryd.ntmps42
        go_wp2_with fail
        all_goals
          go_ret
          exact ⟨by first | rfl | (simp; done) | (simp [*]; done) | (simp_all; done), (by repeat (first | exact Below.refl _ _ | refine below_alloc ?_ _))⟩
  · have za : (a == 0) = false := by simpa using ha
    by_cases hb : b = 0
    · have zb : (b == 0) = true := by simpa using hb
      by_cases hbits : bits = 0
      · have zbits : (bits == 0) = true := by simpa using hbits
        go_enter Tryd.func42, Tryd.ntmps42
        go_wp2_with fail
        all_goals
          go_ret
          exact ⟨by first | rfl | (simp; done) | (simp [*]; done) | (simp_all; done), (by repeat (first | exact Below.refl _ _ | refine below_alloc ?_ _))⟩
      · have zbits : (bits == 0) = false := by simpa using hbits
        go_enter Tryd.func42, Tryd.ntmps42
        go_wp2_with fail
        all_goals
          go_ret
          exact ⟨by first | rfl | (simp; done) | (simp [*]; done) | (simp_all; done), (by repeat (first | exact Below.refl _ _ | refine below_alloc ?_ _))⟩
    · have zb : (b == 0) = false := by simpa using hb
      by_cases hbits : bits = 0
      · have zbits : (bits == 0) = true := by simpa using hbits
        go_enter Tryd.func42, Tryd.ntmps42
        go_wp2_with fail
        all_goals
          go_ret
          exact ⟨by first | rfl | (simp; done) | (simp [*]; done) | (simp_all; done), (by repeat (first | exact Below.refl _ _ | refine below_alloc ?_ _))⟩
      · have zbits : (bits == 0) = false := by simpa using hbits
        go_enter Tryd.func42, Tryd.ntmps42
        go_wp2_with fail
        all_goals
          go_ret
          exact ⟨by first | rfl | (simp; done) | (simp [*]; done) | (simp_all; done), (by repeat (first | exact Below.refl _ _ | refine below_alloc ?_ _))⟩
end Go.Proofs.YtbpbimkadiobfaaDoor
