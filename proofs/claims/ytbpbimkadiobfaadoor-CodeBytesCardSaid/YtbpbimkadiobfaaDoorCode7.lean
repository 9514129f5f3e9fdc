/-
  An instruction asked, by its number (1, 2, 3, 4, 5, 6, 7, 12).
-/
import Derived.Test.YtbpbimkadiobfaaDoorCode7a
import Derived.Deep.RegionLaw
import Derived.ChangeAlike
namespace Go.Proofs.YtbpbimkadiobfaaDoor
open Go.RowKit Go.Stk

set_option maxRecDepth 100000 in
set_option maxHeartbeats 4000000 in
theorem instr_1 (c : Co) (x : Ins) (w : World) (hb : Bnd c) (hx : x.op = 1) : Calls Tryd.prog 30 #[c.agg, x.agg] w (Ret w (.bool (wB x.at_ 0 8192 && (decide (0 ≤ x.a) && (decide (x.b = 0) && decide (x.bits = 0)))))) := by
  have b1 := hb.np
  have b2 := hb.m0
  have b3 := hb.m1
  have b4 := hb.a0
  have b5 := hb.a1
  have b6 := hb.nc
  have b7 := hb.nf
  have b8 := hb.nb
  clear hb
  obtain ⟨op, a, b, bits, at_⟩ := x
  unfold Co.agg Ins.agg
  dsimp only at hx ⊢
  subst hx
  obtain ⟨z, hz⟩ : ∃ z, wB at_ 0 8192 = z := ⟨_, rfl⟩
  rw [hz]
  have HZ := Lib.hid hz
  clear hz
  cases z
  · go_enter Tryd.func30, Tryd.ntmps30
    go_wp2_with fail
    refine (within_any _ _ _ _).mono ?_
    rintro e w' ⟨rfl, rfl⟩
    rw [HZ.out]
    go_wp2_with fail
    all_goals
      go_ret
      exact ⟨by first | rfl | (simp; done) | (simp [*]; done) | (simp_all; done), (by repeat (first | exact Below.refl _ _ | refine below_alloc ?_ _ | refine below_drew2 ?_ | refine below_set3 ?_ _ _))⟩
  
  · by_cases ha : 0 ≤ a
    · have d1 : decide (0 ≤ a) = true := decide_eq_true ha
      go_enter Tryd.func30, Tryd.ntmps30
      go_wp2_with fail
      refine (within_any _ _ _ _).mono ?_
      rintro e w' ⟨rfl, rfl⟩
      rw [HZ.out]
      go_wp2_with fail
      all_goals
        go_ret
        exact ⟨by first | rfl | (simp; done) | (simp [*]; done) | (simp_all; done), (by repeat (first | exact Below.refl _ _ | refine below_alloc ?_ _ | refine below_drew2 ?_ | refine below_set3 ?_ _ _))⟩
    · have d1 : decide (0 ≤ a) = false := decide_eq_false ha
      go_enter Tryd.func30, Tryd.ntmps30
      go_wp2_with fail
      refine (within_any _ _ _ _).mono ?_
      rintro e w' ⟨rfl, rfl⟩
      rw [HZ.out]
      go_wp2_with fail
      all_goals
        go_ret
        exact ⟨by first | rfl | (simp; done) | (simp [*]; done) | (simp_all; done), (by repeat (first | exact Below.refl _ _ | refine below_alloc ?_ _ | refine below_drew2 ?_ | refine below_set3 ?_ _ _))⟩
set_option maxRecDepth 100000 in
set_option maxHeartbeats 4000000 in
theorem instr_2 (c : Co) (x : Ins) (w : World) (hb : Bnd c) (hx : x.op = 2) : Calls Tryd.prog 30 #[c.agg, x.agg] w (Ret w (.bool (wB x.at_ 0 8192 && (decide (x.a = 0) && decide (x.b = 0))))) := by
  have b1 := hb.np
  have b2 := hb.m0
  have b3 := hb.m1
  have b4 := hb.a0
  have b5 := hb.a1
  have b6 := hb.nc
  have b7 := hb.nf
  have b8 := hb.nb
  clear hb
  obtain ⟨op, a, b, bits, at_⟩ := x
  unfold Co.agg Ins.agg
  dsimp only at hx ⊢
  subst hx
  obtain ⟨z, hz⟩ : ∃ z, wB at_ 0 8192 = z := ⟨_, rfl⟩
  rw [hz]
  have HZ := Lib.hid hz
  clear hz
  cases z
  · go_enter Tryd.func30, Tryd.ntmps30
    go_wp2_with fail
    refine (within_any _ _ _ _).mono ?_
    rintro e w' ⟨rfl, rfl⟩
    rw [HZ.out]
    go_wp2_with fail
    go_region
    all_goals
      go_wp2_with fail
      all_goals
        go_ret
        exact ⟨by first | rfl | (simp; done) | (simp [*]; done) | (simp_all; done), (by repeat (first | exact Below.refl _ _ | refine below_alloc ?_ _ | refine below_drew2 ?_ | refine below_set3 ?_ _ _))⟩
  
  · go_enter Tryd.func30, Tryd.ntmps30
    go_wp2_with fail
    refine (within_any _ _ _ _).mono ?_
    rintro e w' ⟨rfl, rfl⟩
    rw [HZ.out]
    go_wp2_with fail
    go_region
    all_goals
      go_wp2_with fail
      all_goals
        go_ret
        exact ⟨by first | rfl | (simp; done) | (simp [*]; done) | (simp_all; done), (by repeat (first | exact Below.refl _ _ | refine below_alloc ?_ _ | refine below_drew2 ?_ | refine below_set3 ?_ _ _))⟩
  
set_option maxRecDepth 100000 in
set_option maxHeartbeats 4000000 in
theorem instr_3 (c : Co) (x : Ins) (w : World) (hb : Bnd c) (hx : x.op = 3) : Calls Tryd.prog 30 #[c.agg, x.agg] w (Ret w (.bool (wB x.at_ 0 8192 && (wB x.a 0 1 && (decide (x.b = 0) && decide (x.bits = 0)))))) := by
  have b1 := hb.np
  have b2 := hb.m0
  have b3 := hb.m1
  have b4 := hb.a0
  have b5 := hb.a1
  have b6 := hb.nc
  have b7 := hb.nf
  have b8 := hb.nb
  clear hb
  obtain ⟨op, a, b, bits, at_⟩ := x
  unfold Co.agg Ins.agg
  dsimp only at hx ⊢
  subst hx
  obtain ⟨z, hz⟩ : ∃ z, wB at_ 0 8192 = z := ⟨_, rfl⟩
  rw [hz]
  have HZ := Lib.hid hz
  clear hz
  cases z
  · go_enter Tryd.func30, Tryd.ntmps30
    go_wp2_with fail
    refine (within_any _ _ _ _).mono ?_
    rintro e w' ⟨rfl, rfl⟩
    rw [HZ.out]
    go_wp2_with fail
    all_goals
      go_ret
      exact ⟨by first | rfl | (simp; done) | (simp [*]; done) | (simp_all; done), (by repeat (first | exact Below.refl _ _ | refine below_alloc ?_ _ | refine below_drew2 ?_ | refine below_set3 ?_ _ _))⟩
  
  · obtain ⟨y0, hy0⟩ : ∃ y, wB a 0 1 = y := ⟨_, rfl⟩
    rw [hy0]
    have HY0 := Lib.hid hy0
    clear hy0
    cases y0
    · go_enter Tryd.func30, Tryd.ntmps30
      go_wp2_with fail
      refine (within_any _ _ _ _).mono ?_
      rintro e w' ⟨rfl, rfl⟩
      rw [HZ.out]
      go_wp2_with fail
      refine (within_any _ _ _ _).mono ?_
      rintro e w' ⟨rfl, rfl⟩
      rw [HY0.out]
      go_wp2_with fail
      all_goals
        go_ret
        exact ⟨by first | rfl | (simp; done) | (simp [*]; done) | (simp_all; done), (by repeat (first | exact Below.refl _ _ | refine below_alloc ?_ _ | refine below_drew2 ?_ | refine below_set3 ?_ _ _))⟩
    · go_enter Tryd.func30, Tryd.ntmps30
      go_wp2_with fail
      refine (within_any _ _ _ _).mono ?_
      rintro e w' ⟨rfl, rfl⟩
      rw [HZ.out]
      go_wp2_with fail
      refine (within_any _ _ _ _).mono ?_
      rintro e w' ⟨rfl, rfl⟩
      rw [HY0.out]
      go_wp2_with fail
      all_goals
        go_ret
        exact ⟨by first | rfl | (simp; done) | (simp [*]; done) | (simp_all; done), (by repeat (first | exact Below.refl _ _ | refine below_alloc ?_ _ | refine below_drew2 ?_ | refine below_set3 ?_ _ _))⟩
  
set_option maxRecDepth 100000 in
set_option maxHeartbeats 4000000 in
theorem instr_4 (c : Co) (x : Ins) (w : World) (hb : Bnd c) (hx : x.op = 4) : Calls Tryd.prog 30 #[c.agg, x.agg] w (Ret w (.bool (wB x.at_ 0 8192 && (wB x.a 0 31 && (decide (x.b = 0) && decide (x.bits = 0)))))) := by
  have b1 := hb.np
  have b2 := hb.m0
  have b3 := hb.m1
  have b4 := hb.a0
  have b5 := hb.a1
  have b6 := hb.nc
  have b7 := hb.nf
  have b8 := hb.nb
  clear hb
  obtain ⟨op, a, b, bits, at_⟩ := x
  unfold Co.agg Ins.agg
  dsimp only at hx ⊢
  subst hx
  obtain ⟨z, hz⟩ : ∃ z, wB at_ 0 8192 = z := ⟨_, rfl⟩
  rw [hz]
  have HZ := Lib.hid hz
  clear hz
  cases z
  · go_enter Tryd.func30, Tryd.ntmps30
    go_wp2_with fail
    refine (within_any _ _ _ _).mono ?_
    rintro e w' ⟨rfl, rfl⟩
    rw [HZ.out]
    go_wp2_with fail
    all_goals
      go_ret
      exact ⟨by first | rfl | (simp; done) | (simp [*]; done) | (simp_all; done), (by repeat (first | exact Below.refl _ _ | refine below_alloc ?_ _ | refine below_drew2 ?_ | refine below_set3 ?_ _ _))⟩
  
  · obtain ⟨y0, hy0⟩ : ∃ y, wB a 0 31 = y := ⟨_, rfl⟩
    rw [hy0]
    have HY0 := Lib.hid hy0
    clear hy0
    cases y0
    · go_enter Tryd.func30, Tryd.ntmps30
      go_wp2_with fail
      refine (within_any _ _ _ _).mono ?_
      rintro e w' ⟨rfl, rfl⟩
      rw [HZ.out]
      go_wp2_with fail
      refine (within_any _ _ _ _).mono ?_
      rintro e w' ⟨rfl, rfl⟩
      rw [HY0.out]
      go_wp2_with fail
      all_goals
        go_ret
        exact ⟨by first | rfl | (simp; done) | (simp [*]; done) | (simp_all; done), (by repeat (first | exact Below.refl _ _ | refine below_alloc ?_ _ | refine below_drew2 ?_ | refine below_set3 ?_ _ _))⟩
    · go_enter Tryd.func30, Tryd.ntmps30
      go_wp2_with fail
      refine (within_any _ _ _ _).mono ?_
      rintro e w' ⟨rfl, rfl⟩
      rw [HZ.out]
      go_wp2_with fail
      refine (within_any _ _ _ _).mono ?_
      rintro e w' ⟨rfl, rfl⟩
      rw [HY0.out]
      go_wp2_with fail
      all_goals
        go_ret
        exact ⟨by first | rfl | (simp; done) | (simp [*]; done) | (simp_all; done), (by repeat (first | exact Below.refl _ _ | refine below_alloc ?_ _ | refine below_drew2 ?_ | refine below_set3 ?_ _ _))⟩
  
set_option maxRecDepth 100000 in
set_option maxHeartbeats 4000000 in
theorem instr_5 (c : Co) (x : Ins) (w : World) (hb : Bnd c) (hx : x.op = 5) : Calls Tryd.prog 30 #[c.agg, x.agg] w (Ret w (.bool (wB x.at_ 0 8192 && (wB x.a 0 31 && (decide (x.b = 0) && decide (x.bits = 0)))))) := by
  have b1 := hb.np
  have b2 := hb.m0
  have b3 := hb.m1
  have b4 := hb.a0
  have b5 := hb.a1
  have b6 := hb.nc
  have b7 := hb.nf
  have b8 := hb.nb
  clear hb
  obtain ⟨op, a, b, bits, at_⟩ := x
  unfold Co.agg Ins.agg
  dsimp only at hx ⊢
  subst hx
  obtain ⟨z, hz⟩ : ∃ z, wB at_ 0 8192 = z := ⟨_, rfl⟩
  rw [hz]
  have HZ := Lib.hid hz
  clear hz
  cases z
  · go_enter Tryd.func30, Tryd.ntmps30
    go_wp2_with fail
    refine (within_any _ _ _ _).mono ?_
    rintro e w' ⟨rfl, rfl⟩
    rw [HZ.out]
    go_wp2_with fail
    all_goals
      go_ret
      exact ⟨by first | rfl | (simp; done) | (simp [*]; done) | (simp_all; done), (by repeat (first | exact Below.refl _ _ | refine below_alloc ?_ _ | refine below_drew2 ?_ | refine below_set3 ?_ _ _))⟩
  
  · obtain ⟨y0, hy0⟩ : ∃ y, wB a 0 31 = y := ⟨_, rfl⟩
    rw [hy0]
    have HY0 := Lib.hid hy0
    clear hy0
    cases y0
    · go_enter Tryd.func30, Tryd.ntmps30
      go_wp2_with fail
      refine (within_any _ _ _ _).mono ?_
      rintro e w' ⟨rfl, rfl⟩
      rw [HZ.out]
      go_wp2_with fail
      refine (within_any _ _ _ _).mono ?_
      rintro e w' ⟨rfl, rfl⟩
      rw [HY0.out]
      go_wp2_with fail
      all_goals
        go_ret
        exact ⟨by first | rfl | (simp; done) | (simp [*]; done) | (simp_all; done), (by repeat (first | exact Below.refl _ _ | refine below_alloc ?_ _ | refine below_drew2 ?_ | refine below_set3 ?_ _ _))⟩
    · go_enter Tryd.func30, Tryd.ntmps30
      go_wp2_with fail
      refine (within_any _ _ _ _).mono ?_
      rintro e w' ⟨rfl, rfl⟩
      rw [HZ.out]
      go_wp2_with fail
      refine (within_any _ _ _ _).mono ?_
      rintro e w' ⟨rfl, rfl⟩
      rw [HY0.out]
      go_wp2_with fail
      all_goals
        go_ret
        exact ⟨by first | rfl | (simp; done) | (simp [*]; done) | (simp_all; done), (by repeat (first | exact Below.refl _ _ | refine below_alloc ?_ _ | refine below_drew2 ?_ | refine below_set3 ?_ _ _))⟩
  
set_option maxRecDepth 100000 in
set_option maxHeartbeats 4000000 in
theorem instr_6 (c : Co) (x : Ins) (w : World) (hb : Bnd c) (hx : x.op = 6) : Calls Tryd.prog 30 #[c.agg, x.agg] w (Ret w (.bool (wB x.at_ 0 8192 && (wB x.a 0 ((c.places.length : Int) - 1) && (decide (x.b = 0) && decide (x.bits = 0)))))) := by
  have b1 := hb.np
  have b2 := hb.m0
  have b3 := hb.m1
  have b4 := hb.a0
  have b5 := hb.a1
  have b6 := hb.nc
  have b7 := hb.nf
  have b8 := hb.nb
  clear hb
  obtain ⟨op, a, b, bits, at_⟩ := x
  unfold Co.agg Ins.agg
  dsimp only at hx ⊢
  subst hx
  obtain ⟨z, hz⟩ : ∃ z, wB at_ 0 8192 = z := ⟨_, rfl⟩
  rw [hz]
  have HZ := Lib.hid hz
  clear hz
  cases z
  · go_enter Tryd.func30, Tryd.ntmps30
    go_wp2_with fail
    refine (within_any _ _ _ _).mono ?_
    rintro e w' ⟨rfl, rfl⟩
    rw [HZ.out]
    go_wp2_with fail
    all_goals
      go_ret
      exact ⟨by first | rfl | (simp; done) | (simp [*]; done) | (simp_all; done), (by repeat (first | exact Below.refl _ _ | refine below_alloc ?_ _ | refine below_drew2 ?_ | refine below_set3 ?_ _ _))⟩
  
  · obtain ⟨y0, hy0⟩ : ∃ y, wB a 0 ((c.places.length : Int) - 1) = y := ⟨_, rfl⟩
    rw [hy0]
    have HY0 := Lib.hid hy0
    clear hy0
    cases y0
    · go_enter Tryd.func30, Tryd.ntmps30
      go_wp2_with fail
      refine (within_any _ _ _ _).mono ?_
      rintro e w' ⟨rfl, rfl⟩
      rw [HZ.out]
      go_wp2_with fail
      refine (within_any _ _ _ _).mono ?_
      rintro e w' ⟨rfl, rfl⟩
      rw [HY0.out]
      go_wp2_with fail
      all_goals
        go_ret
        exact ⟨by first | rfl | (simp; done) | (simp [*]; done) | (simp_all; done), (by repeat (first | exact Below.refl _ _ | refine below_alloc ?_ _ | refine below_drew2 ?_ | refine below_set3 ?_ _ _))⟩
    · go_enter Tryd.func30, Tryd.ntmps30
      go_wp2_with fail
      refine (within_any _ _ _ _).mono ?_
      rintro e w' ⟨rfl, rfl⟩
      rw [HZ.out]
      go_wp2_with fail
      refine (within_any _ _ _ _).mono ?_
      rintro e w' ⟨rfl, rfl⟩
      rw [HY0.out]
      go_wp2_with fail
      all_goals
        go_ret
        exact ⟨by first | rfl | (simp; done) | (simp [*]; done) | (simp_all; done), (by repeat (first | exact Below.refl _ _ | refine below_alloc ?_ _ | refine below_drew2 ?_ | refine below_set3 ?_ _ _))⟩
  
set_option maxRecDepth 100000 in
set_option maxHeartbeats 4000000 in
theorem instr_7 (c : Co) (x : Ins) (w : World) (hb : Bnd c) (hx : x.op = 7) : Calls Tryd.prog 30 #[c.agg, x.agg] w (Ret w (.bool (wB x.at_ 0 8192 && (wB x.a 0 ((c.places.length : Int) - 1) && (decide (x.b = 0) && decide (x.bits = 0)))))) := by
  have b1 := hb.np
  have b2 := hb.m0
  have b3 := hb.m1
  have b4 := hb.a0
  have b5 := hb.a1
  have b6 := hb.nc
  have b7 := hb.nf
  have b8 := hb.nb
  clear hb
  obtain ⟨op, a, b, bits, at_⟩ := x
  unfold Co.agg Ins.agg
  dsimp only at hx ⊢
  subst hx
  obtain ⟨z, hz⟩ : ∃ z, wB at_ 0 8192 = z := ⟨_, rfl⟩
  rw [hz]
  have HZ := Lib.hid hz
  clear hz
  cases z
  · go_enter Tryd.func30, Tryd.ntmps30
    go_wp2_with fail
    refine (within_any _ _ _ _).mono ?_
    rintro e w' ⟨rfl, rfl⟩
    rw [HZ.out]
    go_wp2_with fail
    all_goals
      go_ret
      exact ⟨by first | rfl | (simp; done) | (simp [*]; done) | (simp_all; done), (by repeat (first | exact Below.refl _ _ | refine below_alloc ?_ _ | refine below_drew2 ?_ | refine below_set3 ?_ _ _))⟩
  
  · obtain ⟨y0, hy0⟩ : ∃ y, wB a 0 ((c.places.length : Int) - 1) = y := ⟨_, rfl⟩
    rw [hy0]
    have HY0 := Lib.hid hy0
    clear hy0
    cases y0
    · go_enter Tryd.func30, Tryd.ntmps30
      go_wp2_with fail
      refine (within_any _ _ _ _).mono ?_
      rintro e w' ⟨rfl, rfl⟩
      rw [HZ.out]
      go_wp2_with fail
      refine (within_any _ _ _ _).mono ?_
      rintro e w' ⟨rfl, rfl⟩
      rw [HY0.out]
      go_wp2_with fail
      all_goals
        go_ret
        exact ⟨by first | rfl | (simp; done) | (simp [*]; done) | (simp_all; done), (by repeat (first | exact Below.refl _ _ | refine below_alloc ?_ _ | refine below_drew2 ?_ | refine below_set3 ?_ _ _))⟩
    · go_enter Tryd.func30, Tryd.ntmps30
      go_wp2_with fail
      refine (within_any _ _ _ _).mono ?_
      rintro e w' ⟨rfl, rfl⟩
      rw [HZ.out]
      go_wp2_with fail
      refine (within_any _ _ _ _).mono ?_
      rintro e w' ⟨rfl, rfl⟩
      rw [HY0.out]
      go_wp2_with fail
      all_goals
        go_ret
        exact ⟨by first | rfl | (simp; done) | (simp [*]; done) | (simp_all; done), (by repeat (first | exact Below.refl _ _ | refine below_alloc ?_ _ | refine below_drew2 ?_ | refine below_set3 ?_ _ _))⟩
  
set_option maxRecDepth 100000 in
set_option maxHeartbeats 4000000 in
theorem instr_12 (c : Co) (x : Ins) (w : World) (hb : Bnd c) (hx : x.op = 12) : Calls Tryd.prog 30 #[c.agg, x.agg] w (Ret w (.bool (wB x.at_ 0 8192 && (wB x.a 0 ((c.body.length : Int) - 1) && (decide (x.b = 0) && decide (x.bits = 0)))))) := by
  have b1 := hb.np
  have b2 := hb.m0
  have b3 := hb.m1
  have b4 := hb.a0
  have b5 := hb.a1
  have b6 := hb.nc
  have b7 := hb.nf
  have b8 := hb.nb
  clear hb
  obtain ⟨op, a, b, bits, at_⟩ := x
  unfold Co.agg Ins.agg
  dsimp only at hx ⊢
  subst hx
  obtain ⟨z, hz⟩ : ∃ z, wB at_ 0 8192 = z := ⟨_, rfl⟩
  rw [hz]
  have HZ := Lib.hid hz
  clear hz
  cases z
  · go_enter Tryd.func30, Tryd.ntmps30
    go_wp2_with fail
    refine (within_any _ _ _ _).mono ?_
    rintro e w' ⟨rfl, rfl⟩
    rw [HZ.out]
    go_wp2_with fail
    all_goals
      go_ret
      exact ⟨by first | rfl | (simp; done) | (simp [*]; done) | (simp_all; done), (by repeat (first | exact Below.refl _ _ | refine below_alloc ?_ _ | refine below_drew2 ?_ | refine below_set3 ?_ _ _))⟩
  
  · obtain ⟨y0, hy0⟩ : ∃ y, wB a 0 ((c.body.length : Int) - 1) = y := ⟨_, rfl⟩
    rw [hy0]
    have HY0 := Lib.hid hy0
    clear hy0
    cases y0
    · go_enter Tryd.func30, Tryd.ntmps30
      go_wp2_with fail
      refine (within_any _ _ _ _).mono ?_
      rintro e w' ⟨rfl, rfl⟩
      rw [HZ.out]
      go_wp2_with fail
      refine (within_any _ _ _ _).mono ?_
      rintro e w' ⟨rfl, rfl⟩
      rw [HY0.out]
      go_wp2_with fail
      all_goals
        go_ret
        exact ⟨by first | rfl | (simp; done) | (simp [*]; done) | (simp_all; done), (by repeat (first | exact Below.refl _ _ | refine below_alloc ?_ _ | refine below_drew2 ?_ | refine below_set3 ?_ _ _))⟩
    · go_enter Tryd.func30, Tryd.ntmps30
      go_wp2_with fail
      refine (within_any _ _ _ _).mono ?_
      rintro e w' ⟨rfl, rfl⟩
      rw [HZ.out]
      go_wp2_with fail
      refine (within_any _ _ _ _).mono ?_
      rintro e w' ⟨rfl, rfl⟩
      rw [HY0.out]
      go_wp2_with fail
      all_goals
        go_ret
        exact ⟨by first | rfl | (simp; done) | (simp [*]; done) | (simp_all; done), (by repeat (first | exact Below.refl _ _ | refine below_alloc ?_ _ | refine below_drew2 ?_ | refine below_set3 ?_ _ _))⟩
  
end Go.Proofs.YtbpbimkadiobfaaDoor
