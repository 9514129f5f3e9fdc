/-
  An instruction asked, by its number (19, 20, 21, 22, 23, 24, 25, 26).
-/
import Derived.Test.YtbpbimkadiobfaaDoorCode7a
import Derived.Deep.RegionLaw
import Derived.ChangeAlike
namespace Go.Proofs.YtbpbimkadiobfaaDoor
open Go.RowKit Go.Stk

set_option maxRecDepth 100000 in
set_option maxHeartbeats 4000000 in
theorem instr_19 (c : Co) (x : Ins) (w : World) (hb : Bnd c) (hx : x.op = 19) : Calls Tryd.prog 30 #[c.agg, x.agg] w (Ret w (.bool (wB x.at_ 0 8192 && (wB x.a 0 (c.ato - 1) && (decide (x.b = 0) && decide (x.bits = 0)))))) := by
  have b1 := hb.np
  have b2 := hb.m0
  have b3 := hb.m1
  have b4 := hb.a0
  have b5 := hb.a1
  have b6 := hb.nc
  have b7 := hb.nf
  have b8 := hb.nb
  clear hb
  obtain ⟨op, a, b, bits, at_⟩ := x
  unfold Co.agg Ins.agg
  dsimp only at hx ⊢
  subst hx
  obtain ⟨z, hz⟩ : ∃ z, wB at_ 0 8192 = z := ⟨_, rfl⟩
  rw [hz]
  have HZ := Lib.hid hz
  clear hz
  cases z
  · go_enter Tryd.func30, Tryd.ntmps30
    go_wp2_with fail
    refine (within_any _ _ _ _).mono ?_
    rintro e w' ⟨rfl, rfl⟩
    rw [HZ.out]
    go_wp2_with fail
    all_goals
      go_ret
      exact ⟨by first | rfl | (simp; done) | (simp [*]; done) | (simp_all; done), (by repeat (first | exact Below.refl _ _ | refine below_alloc ?_ _ | refine below_drew2 ?_ | refine below_set3 ?_ _ _))⟩
  
  · obtain ⟨y0, hy0⟩ : ∃ y, wB a 0 (c.ato - 1) = y := ⟨_, rfl⟩
    rw [hy0]
    have HY0 := Lib.hid hy0
    clear hy0
    cases y0
    · go_enter Tryd.func30, Tryd.ntmps30
      go_wp2_with fail
      refine (within_any _ _ _ _).mono ?_
      rintro e w' ⟨rfl, rfl⟩
      rw [HZ.out]
      go_wp2_with fail
      refine (within_any _ _ _ _).mono ?_
      rintro e w' ⟨rfl, rfl⟩
      rw [HY0.out]
      go_wp2_with fail
      all_goals
        go_ret
        exact ⟨by first | rfl | (simp; done) | (simp [*]; done) | (simp_all; done), (by repeat (first | exact Below.refl _ _ | refine below_alloc ?_ _ | refine below_drew2 ?_ | refine below_set3 ?_ _ _))⟩
    · go_enter Tryd.func30, Tryd.ntmps30
      go_wp2_with fail
      refine (within_any _ _ _ _).mono ?_
      rintro e w' ⟨rfl, rfl⟩
      rw [HZ.out]
      go_wp2_with fail
      refine (within_any _ _ _ _).mono ?_
      rintro e w' ⟨rfl, rfl⟩
      rw [HY0.out]
      go_wp2_with fail
      all_goals
        go_ret
        exact ⟨by first | rfl | (simp; done) | (simp [*]; done) | (simp_all; done), (by repeat (first | exact Below.refl _ _ | refine below_alloc ?_ _ | refine below_drew2 ?_ | refine below_set3 ?_ _ _))⟩
  
set_option maxRecDepth 100000 in
set_option maxHeartbeats 4000000 in
theorem instr_20 (c : Co) (x : Ins) (w : World) (hb : Bnd c) (hx : x.op = 20) : Calls Tryd.prog 30 #[c.agg, x.agg] w (Ret w (.bool (wB x.at_ 0 8192 && (wB x.a 0 (c.ato - 1) && (decide (x.b = 0) && decide (x.bits = 0)))))) := by
  have b1 := hb.np
  have b2 := hb.m0
  have b3 := hb.m1
  have b4 := hb.a0
  have b5 := hb.a1
  have b6 := hb.nc
  have b7 := hb.nf
  have b8 := hb.nb
  clear hb
  obtain ⟨op, a, b, bits, at_⟩ := x
  unfold Co.agg Ins.agg
  dsimp only at hx ⊢
  subst hx
  obtain ⟨z, hz⟩ : ∃ z, wB at_ 0 8192 = z := ⟨_, rfl⟩
  rw [hz]
  have HZ := Lib.hid hz
  clear hz
  cases z
  · go_enter Tryd.func30, Tryd.ntmps30
    go_wp2_with fail
    refine (within_any _ _ _ _).mono ?_
    rintro e w' ⟨rfl, rfl⟩
    rw [HZ.out]
    go_wp2_with fail
    all_goals
      go_ret
      exact ⟨by first | rfl | (simp; done) | (simp [*]; done) | (simp_all; done), (by repeat (first | exact Below.refl _ _ | refine below_alloc ?_ _ | refine below_drew2 ?_ | refine below_set3 ?_ _ _))⟩
  
  · obtain ⟨y0, hy0⟩ : ∃ y, wB a 0 (c.ato - 1) = y := ⟨_, rfl⟩
    rw [hy0]
    have HY0 := Lib.hid hy0
    clear hy0
    cases y0
    · go_enter Tryd.func30, Tryd.ntmps30
      go_wp2_with fail
      refine (within_any _ _ _ _).mono ?_
      rintro e w' ⟨rfl, rfl⟩
      rw [HZ.out]
      go_wp2_with fail
      refine (within_any _ _ _ _).mono ?_
      rintro e w' ⟨rfl, rfl⟩
      rw [HY0.out]
      go_wp2_with fail
      all_goals
        go_ret
        exact ⟨by first | rfl | (simp; done) | (simp [*]; done) | (simp_all; done), (by repeat (first | exact Below.refl _ _ | refine below_alloc ?_ _ | refine below_drew2 ?_ | refine below_set3 ?_ _ _))⟩
    · go_enter Tryd.func30, Tryd.ntmps30
      go_wp2_with fail
      refine (within_any _ _ _ _).mono ?_
      rintro e w' ⟨rfl, rfl⟩
      rw [HZ.out]
      go_wp2_with fail
      refine (within_any _ _ _ _).mono ?_
      rintro e w' ⟨rfl, rfl⟩
      rw [HY0.out]
      go_wp2_with fail
      all_goals
        go_ret
        exact ⟨by first | rfl | (simp; done) | (simp [*]; done) | (simp_all; done), (by repeat (first | exact Below.refl _ _ | refine below_alloc ?_ _ | refine below_drew2 ?_ | refine below_set3 ?_ _ _))⟩
  
set_option maxRecDepth 100000 in
set_option maxHeartbeats 4000000 in
theorem instr_21 (c : Co) (x : Ins) (w : World) (hb : Bnd c) (hx : x.op = 21) : Calls Tryd.prog 30 #[c.agg, x.agg] w (Ret w (.bool (wB x.at_ 0 8192 && (wB x.a 0 (c.ato - 1) && (decide (x.b = 0) && decide (x.bits = 0)))))) := by
  have b1 := hb.np
  have b2 := hb.m0
  have b3 := hb.m1
  have b4 := hb.a0
  have b5 := hb.a1
  have b6 := hb.nc
  have b7 := hb.nf
  have b8 := hb.nb
  clear hb
  obtain ⟨op, a, b, bits, at_⟩ := x
  unfold Co.agg Ins.agg
  dsimp only at hx ⊢
  subst hx
  obtain ⟨z, hz⟩ : ∃ z, wB at_ 0 8192 = z := ⟨_, rfl⟩
  rw [hz]
  have HZ := Lib.hid hz
  clear hz
  cases z
  · go_enter Tryd.func30, Tryd.ntmps30
    go_wp2_with fail
    refine (within_any _ _ _ _).mono ?_
    rintro e w' ⟨rfl, rfl⟩
    rw [HZ.out]
    go_wp2_with fail
    all_goals
      go_ret
      exact ⟨by first | rfl | (simp; done) | (simp [*]; done) | (simp_all; done), (by repeat (first | exact Below.refl _ _ | refine below_alloc ?_ _ | refine below_drew2 ?_ | refine below_set3 ?_ _ _))⟩
  
  · obtain ⟨y0, hy0⟩ : ∃ y, wB a 0 (c.ato - 1) = y := ⟨_, rfl⟩
    rw [hy0]
    have HY0 := Lib.hid hy0
    clear hy0
    cases y0
    · go_enter Tryd.func30, Tryd.ntmps30
      go_wp2_with fail
      refine (within_any _ _ _ _).mono ?_
      rintro e w' ⟨rfl, rfl⟩
      rw [HZ.out]
      go_wp2_with fail
      refine (within_any _ _ _ _).mono ?_
      rintro e w' ⟨rfl, rfl⟩
      rw [HY0.out]
      go_wp2_with fail
      all_goals
        go_ret
        exact ⟨by first | rfl | (simp; done) | (simp [*]; done) | (simp_all; done), (by repeat (first | exact Below.refl _ _ | refine below_alloc ?_ _ | refine below_drew2 ?_ | refine below_set3 ?_ _ _))⟩
    · go_enter Tryd.func30, Tryd.ntmps30
      go_wp2_with fail
      refine (within_any _ _ _ _).mono ?_
      rintro e w' ⟨rfl, rfl⟩
      rw [HZ.out]
      go_wp2_with fail
      refine (within_any _ _ _ _).mono ?_
      rintro e w' ⟨rfl, rfl⟩
      rw [HY0.out]
      go_wp2_with fail
      all_goals
        go_ret
        exact ⟨by first | rfl | (simp; done) | (simp [*]; done) | (simp_all; done), (by repeat (first | exact Below.refl _ _ | refine below_alloc ?_ _ | refine below_drew2 ?_ | refine below_set3 ?_ _ _))⟩
  
set_option maxRecDepth 100000 in
set_option maxHeartbeats 4000000 in
theorem instr_22 (c : Co) (x : Ins) (w : World) (hb : Bnd c) (hx : x.op = 22) : Calls Tryd.prog 30 #[c.agg, x.agg] w (Ret w (.bool (wB x.at_ 0 8192 && (wB x.a 0 ((c.funcs.length : Int) - 1) && (decide (x.b = 0) && decide (x.bits = 0)))))) := by
  have b1 := hb.np
  have b2 := hb.m0
  have b3 := hb.m1
  have b4 := hb.a0
  have b5 := hb.a1
  have b6 := hb.nc
  have b7 := hb.nf
  have b8 := hb.nb
  clear hb
  obtain ⟨op, a, b, bits, at_⟩ := x
  unfold Co.agg Ins.agg
  dsimp only at hx ⊢
  subst hx
  obtain ⟨z, hz⟩ : ∃ z, wB at_ 0 8192 = z := ⟨_, rfl⟩
  rw [hz]
  have HZ := Lib.hid hz
  clear hz
  cases z
  · go_enter Tryd.func30, Tryd.ntmps30
    go_wp2_with fail
    refine (within_any _ _ _ _).mono ?_
    rintro e w' ⟨rfl, rfl⟩
    rw [HZ.out]
    go_wp2_with fail
    all_goals
      go_ret
      exact ⟨by first | rfl | (simp; done) | (simp [*]; done) | (simp_all; done), (by repeat (first | exact Below.refl _ _ | refine below_alloc ?_ _ | refine below_drew2 ?_ | refine below_set3 ?_ _ _))⟩
  
  · obtain ⟨y0, hy0⟩ : ∃ y, wB a 0 ((c.funcs.length : Int) - 1) = y := ⟨_, rfl⟩
    rw [hy0]
    have HY0 := Lib.hid hy0
    clear hy0
    cases y0
    · go_enter Tryd.func30, Tryd.ntmps30
      go_wp2_with fail
      refine (within_any _ _ _ _).mono ?_
      rintro e w' ⟨rfl, rfl⟩
      rw [HZ.out]
      go_wp2_with fail
      refine (within_any _ _ _ _).mono ?_
      rintro e w' ⟨rfl, rfl⟩
      rw [HY0.out]
      go_wp2_with fail
      all_goals
        go_ret
        exact ⟨by first | rfl | (simp; done) | (simp [*]; done) | (simp_all; done), (by repeat (first | exact Below.refl _ _ | refine below_alloc ?_ _ | refine below_drew2 ?_ | refine below_set3 ?_ _ _))⟩
    · go_enter Tryd.func30, Tryd.ntmps30
      go_wp2_with fail
      refine (within_any _ _ _ _).mono ?_
      rintro e w' ⟨rfl, rfl⟩
      rw [HZ.out]
      go_wp2_with fail
      refine (within_any _ _ _ _).mono ?_
      rintro e w' ⟨rfl, rfl⟩
      rw [HY0.out]
      go_wp2_with fail
      all_goals
        go_ret
        exact ⟨by first | rfl | (simp; done) | (simp [*]; done) | (simp_all; done), (by repeat (first | exact Below.refl _ _ | refine below_alloc ?_ _ | refine below_drew2 ?_ | refine below_set3 ?_ _ _))⟩
  
set_option maxRecDepth 100000 in
set_option maxHeartbeats 4000000 in
theorem instr_23 (c : Co) (x : Ins) (w : World) (hb : Bnd c) (hx : x.op = 23) : Calls Tryd.prog 30 #[c.agg, x.agg] w (Ret w (.bool (wB x.at_ 0 8192 && (wB x.a 0 ((c.funcs.length : Int) - 1) && (decide (x.b = 0) && decide (x.bits = 0)))))) := by
  have b1 := hb.np
  have b2 := hb.m0
  have b3 := hb.m1
  have b4 := hb.a0
  have b5 := hb.a1
  have b6 := hb.nc
  have b7 := hb.nf
  have b8 := hb.nb
  clear hb
  obtain ⟨op, a, b, bits, at_⟩ := x
  unfold Co.agg Ins.agg
  dsimp only at hx ⊢
  subst hx
  obtain ⟨z, hz⟩ : ∃ z, wB at_ 0 8192 = z := ⟨_, rfl⟩
  rw [hz]
  have HZ := Lib.hid hz
  clear hz
  cases z
  · go_enter Tryd.func30, Tryd.ntmps30
    go_wp2_with fail
    refine (within_any _ _ _ _).mono ?_
    rintro e w' ⟨rfl, rfl⟩
    rw [HZ.out]
    go_wp2_with fail
    all_goals
      go_ret
      exact ⟨by first | rfl | (simp; done) | (simp [*]; done) | (simp_all; done), (by repeat (first | exact Below.refl _ _ | refine below_alloc ?_ _ | refine below_drew2 ?_ | refine below_set3 ?_ _ _))⟩
  
  · obtain ⟨y0, hy0⟩ : ∃ y, wB a 0 ((c.funcs.length : Int) - 1) = y := ⟨_, rfl⟩
    rw [hy0]
    have HY0 := Lib.hid hy0
    clear hy0
    cases y0
    · go_enter Tryd.func30, Tryd.ntmps30
      go_wp2_with fail
      refine (within_any _ _ _ _).mono ?_
      rintro e w' ⟨rfl, rfl⟩
      rw [HZ.out]
      go_wp2_with fail
      refine (within_any _ _ _ _).mono ?_
      rintro e w' ⟨rfl, rfl⟩
      rw [HY0.out]
      go_wp2_with fail
      all_goals
        go_ret
        exact ⟨by first | rfl | (simp; done) | (simp [*]; done) | (simp_all; done), (by repeat (first | exact Below.refl _ _ | refine below_alloc ?_ _ | refine below_drew2 ?_ | refine below_set3 ?_ _ _))⟩
    · go_enter Tryd.func30, Tryd.ntmps30
      go_wp2_with fail
      refine (within_any _ _ _ _).mono ?_
      rintro e w' ⟨rfl, rfl⟩
      rw [HZ.out]
      go_wp2_with fail
      refine (within_any _ _ _ _).mono ?_
      rintro e w' ⟨rfl, rfl⟩
      rw [HY0.out]
      go_wp2_with fail
      all_goals
        go_ret
        exact ⟨by first | rfl | (simp; done) | (simp [*]; done) | (simp_all; done), (by repeat (first | exact Below.refl _ _ | refine below_alloc ?_ _ | refine below_drew2 ?_ | refine below_set3 ?_ _ _))⟩
  
set_option maxRecDepth 100000 in
set_option maxHeartbeats 4000000 in
theorem instr_24 (c : Co) (x : Ins) (w : World) (hb : Bnd c) (hx : x.op = 24) : Calls Tryd.prog 30 #[c.agg, x.agg] w (Ret w (.bool (wB x.at_ 0 8192 && (decide (x.a = 0) && (decide (x.b = 0) && decide (x.bits = 0)))))) := by
  have b1 := hb.np
  have b2 := hb.m0
  have b3 := hb.m1
  have b4 := hb.a0
  have b5 := hb.a1
  have b6 := hb.nc
  have b7 := hb.nf
  have b8 := hb.nb
  clear hb
  obtain ⟨op, a, b, bits, at_⟩ := x
  unfold Co.agg Ins.agg
  dsimp only at hx ⊢
  subst hx
  obtain ⟨z, hz⟩ : ∃ z, wB at_ 0 8192 = z := ⟨_, rfl⟩
  rw [hz]
  have HZ := Lib.hid hz
  clear hz
  cases z
  · go_enter Tryd.func30, Tryd.ntmps30
    go_wp2_with fail
    refine (within_any _ _ _ _).mono ?_
    rintro e w' ⟨rfl, rfl⟩
    rw [HZ.out]
    go_wp2_with fail
    all_goals
      go_ret
      exact ⟨by first | rfl | (simp; done) | (simp [*]; done) | (simp_all; done), (by repeat (first | exact Below.refl _ _ | refine below_alloc ?_ _ | refine below_drew2 ?_ | refine below_set3 ?_ _ _))⟩
  
  · go_enter Tryd.func30, Tryd.ntmps30
    go_wp2_with fail
    refine (within_any _ _ _ _).mono ?_
    rintro e w' ⟨rfl, rfl⟩
    rw [HZ.out]
    go_wp2_with fail
    all_goals
      go_ret
      exact ⟨by first | rfl | (simp; done) | (simp [*]; done) | (simp_all; done), (by repeat (first | exact Below.refl _ _ | refine below_alloc ?_ _ | refine below_drew2 ?_ | refine below_set3 ?_ _ _))⟩
  
set_option maxRecDepth 100000 in
set_option maxHeartbeats 4000000 in
theorem instr_25 (c : Co) (x : Ins) (w : World) (hb : Bnd c) (hx : x.op = 25) : Calls Tryd.prog 30 #[c.agg, x.agg] w (Ret w (.bool (wB x.at_ 0 8192 && (decide (x.a = 0) && (decide (x.b = 0) && decide (x.bits = 0)))))) := by
  have b1 := hb.np
  have b2 := hb.m0
  have b3 := hb.m1
  have b4 := hb.a0
  have b5 := hb.a1
  have b6 := hb.nc
  have b7 := hb.nf
  have b8 := hb.nb
  clear hb
  obtain ⟨op, a, b, bits, at_⟩ := x
  unfold Co.agg Ins.agg
  dsimp only at hx ⊢
  subst hx
  obtain ⟨z, hz⟩ : ∃ z, wB at_ 0 8192 = z := ⟨_, rfl⟩
  rw [hz]
  have HZ := Lib.hid hz
  clear hz
  cases z
  · go_enter Tryd.func30, Tryd.ntmps30
    go_wp2_with fail
    refine (within_any _ _ _ _).mono ?_
    rintro e w' ⟨rfl, rfl⟩
    rw [HZ.out]
    go_wp2_with fail
    all_goals
      go_ret
      exact ⟨by first | rfl | (simp; done) | (simp [*]; done) | (simp_all; done), (by repeat (first | exact Below.refl _ _ | refine below_alloc ?_ _ | refine below_drew2 ?_ | refine below_set3 ?_ _ _))⟩
  
  · go_enter Tryd.func30, Tryd.ntmps30
    go_wp2_with fail
    refine (within_any _ _ _ _).mono ?_
    rintro e w' ⟨rfl, rfl⟩
    rw [HZ.out]
    go_wp2_with fail
    all_goals
      go_ret
      exact ⟨by first | rfl | (simp; done) | (simp [*]; done) | (simp_all; done), (by repeat (first | exact Below.refl _ _ | refine below_alloc ?_ _ | refine below_drew2 ?_ | refine below_set3 ?_ _ _))⟩
  
set_option maxRecDepth 100000 in
set_option maxHeartbeats 4000000 in
theorem instr_26 (c : Co) (x : Ins) (w : World) (hb : Bnd c) (hx : x.op = 26) : Calls Tryd.prog 30 #[c.agg, x.agg] w (Ret w (.bool (wB x.at_ 0 8192 && (decide (x.a = 0) && (decide (x.b = 0) && decide (x.bits = 0)))))) := by
  have b1 := hb.np
  have b2 := hb.m0
  have b3 := hb.m1
  have b4 := hb.a0
  have b5 := hb.a1
  have b6 := hb.nc
  have b7 := hb.nf
  have b8 := hb.nb
  clear hb
  obtain ⟨op, a, b, bits, at_⟩ := x
  unfold Co.agg Ins.agg
  dsimp only at hx ⊢
  subst hx
  obtain ⟨z, hz⟩ : ∃ z, wB at_ 0 8192 = z := ⟨_, rfl⟩
  rw [hz]
  have HZ := Lib.hid hz
  clear hz
  cases z
  · go_enter Tryd.func30, Tryd.ntmps30
    go_wp2_with fail
    refine (within_any _ _ _ _).mono ?_
    rintro e w' ⟨rfl, rfl⟩
    rw [HZ.out]
    go_wp2_with fail
    all_goals
      go_ret
      exact ⟨by first | rfl | (simp; done) | (simp [*]; done) | (simp_all; done), (by repeat (first | exact Below.refl _ _ | refine below_alloc ?_ _ | refine below_drew2 ?_ | refine below_set3 ?_ _ _))⟩
  
  · go_enter Tryd.func30, Tryd.ntmps30
    go_wp2_with fail
    refine (within_any _ _ _ _).mono ?_
    rintro e w' ⟨rfl, rfl⟩
    rw [HZ.out]
    go_wp2_with fail
    all_goals
      go_ret
      exact ⟨by first | rfl | (simp; done) | (simp [*]; done) | (simp_all; done), (by repeat (first | exact Below.refl _ _ | refine below_alloc ?_ _ | refine below_drew2 ?_ | refine below_set3 ?_ _ _))⟩
  
end Go.Proofs.YtbpbimkadiobfaaDoor
