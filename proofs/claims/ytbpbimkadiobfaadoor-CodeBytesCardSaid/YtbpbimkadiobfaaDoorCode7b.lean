/-
  An instruction asked, by its number (13, 14, 15, 16, 17, 18).
-/
import Derived.Test.YtbpbimkadiobfaaDoorCode7a
import Derived.Deep.RegionLaw
import Derived.ChangeAlike
namespace Go.Proofs.YtbpbimkadiobfaaDoor
open Go.RowKit Go.Stk

set_option maxRecDepth 100000 in
set_option maxHeartbeats 4000000 in
theorem instr_13 (c : Co) (x : Ins) (w : World) (hb : Bnd c) (hx : x.op = 13) : Calls Tryd.prog 30 #[c.agg, x.agg] w (Ret w (.bool (wB x.at_ 0 8192 && (wB x.a 0 ((c.body.length : Int) - 1) && (wB x.b 0 1 && decide (x.bits = 0)))))) := by
  have b1 := hb.np
  have b2 := hb.m0
  have b3 := hb.m1
  have b4 := hb.a0
  have b5 := hb.a1
  have b6 := hb.nc
  have b7 := hb.nf
  have b8 := hb.nb
  clear hb
  obtain ⟨op, a, b, bits, at_⟩ := x
  unfold Co.agg Ins.agg
  dsimp only at hx ⊢
  subst hx
  obtain ⟨z, hz⟩ : ∃ z, wB at_ 0 8192 = z := ⟨_, rfl⟩
  rw [hz]
  have HZ := Lib.hid hz
  clear hz
  cases z
  · go_enter Tryd.func30, Tryd.ntmps30
    go_wp2_with fail
    refine (within_any _ _ _ _).mono ?_
    rintro e w' ⟨rfl, rfl⟩
    rw [HZ.out]
    go_wp2_with fail
    all_goals
      go_ret
      exact ⟨by first | rfl | (simp; done) | (simp [*]; done) | (simp_all; done), (by repeat (first | exact Below.refl _ _ | refine below_alloc ?_ _ | refine below_drew2 ?_ | refine below_set3 ?_ _ _))⟩
  
  · obtain ⟨y0, hy0⟩ : ∃ y, wB a 0 ((c.body.length : Int) - 1) = y := ⟨_, rfl⟩
    rw [hy0]
    have HY0 := Lib.hid hy0
    clear hy0
    cases y0
    · go_enter Tryd.func30, Tryd.ntmps30
      go_wp2_with fail
      refine (within_any _ _ _ _).mono ?_
      rintro e w' ⟨rfl, rfl⟩
      rw [HZ.out]
      go_wp2_with fail
      refine (within_any _ _ _ _).mono ?_
      rintro e w' ⟨rfl, rfl⟩
      rw [HY0.out]
      go_wp2_with fail
      all_goals
        go_ret
        exact ⟨by first | rfl | (simp; done) | (simp [*]; done) | (simp_all; done), (by repeat (first | exact Below.refl _ _ | refine below_alloc ?_ _ | refine below_drew2 ?_ | refine below_set3 ?_ _ _))⟩
    · obtain ⟨y1, hy1⟩ : ∃ y, wB b 0 1 = y := ⟨_, rfl⟩
      rw [hy1]
      have HY1 := Lib.hid hy1
      clear hy1
      cases y1
      · go_enter Tryd.func30, Tryd.ntmps30
        go_wp2_with fail
        refine (within_any _ _ _ _).mono ?_
        rintro e w' ⟨rfl, rfl⟩
        rw [HZ.out]
        go_wp2_with fail
        refine (within_any _ _ _ _).mono ?_
        rintro e w' ⟨rfl, rfl⟩
        rw [HY0.out]
        go_wp2_with fail
        refine (within_any _ _ _ _).mono ?_
        rintro e w' ⟨rfl, rfl⟩
        rw [HY1.out]
        go_wp2_with fail
        all_goals
          go_ret
          exact ⟨by first | rfl | (simp; done) | (simp [*]; done) | (simp_all; done), (by repeat (first | exact Below.refl _ _ | refine below_alloc ?_ _ | refine below_drew2 ?_ | refine below_set3 ?_ _ _))⟩
      · go_enter Tryd.func30, Tryd.ntmps30
        go_wp2_with fail
        refine (within_any _ _ _ _).mono ?_
        rintro e w' ⟨rfl, rfl⟩
        rw [HZ.out]
        go_wp2_with fail
        refine (within_any _ _ _ _).mono ?_
        rintro e w' ⟨rfl, rfl⟩
        rw [HY0.out]
        go_wp2_with fail
        refine (within_any _ _ _ _).mono ?_
        rintro e w' ⟨rfl, rfl⟩
        rw [HY1.out]
        go_wp2_with fail
        all_goals
          go_ret
          exact ⟨by first | rfl | (simp; done) | (simp [*]; done) | (simp_all; done), (by repeat (first | exact Below.refl _ _ | refine below_alloc ?_ _ | refine below_drew2 ?_ | refine below_set3 ?_ _ _))⟩
  
set_option maxRecDepth 100000 in
set_option maxHeartbeats 4000000 in
theorem instr_14 (c : Co) (x : Ins) (w : World) (hb : Bnd c) (hx : x.op = 14) : Calls Tryd.prog 30 #[c.agg, x.agg] w (Ret w (.bool (wB x.at_ 0 8192 && (wB x.a 0 ((c.body.length : Int) - 1) && (wB x.b 0 1 && decide (x.bits = 0)))))) := by
  have b1 := hb.np
  have b2 := hb.m0
  have b3 := hb.m1
  have b4 := hb.a0
  have b5 := hb.a1
  have b6 := hb.nc
  have b7 := hb.nf
  have b8 := hb.nb
  clear hb
  obtain ⟨op, a, b, bits, at_⟩ := x
  unfold Co.agg Ins.agg
  dsimp only at hx ⊢
  subst hx
  obtain ⟨z, hz⟩ : ∃ z, wB at_ 0 8192 = z := ⟨_, rfl⟩
  rw [hz]
  have HZ := Lib.hid hz
  clear hz
  cases z
  · go_enter Tryd.func30, Tryd.ntmps30
    go_wp2_with fail
    refine (within_any _ _ _ _).mono ?_
    rintro e w' ⟨rfl, rfl⟩
    rw [HZ.out]
    go_wp2_with fail
    all_goals
      go_ret
      exact ⟨by first | rfl | (simp; done) | (simp [*]; done) | (simp_all; done), (by repeat (first | exact Below.refl _ _ | refine below_alloc ?_ _ | refine below_drew2 ?_ | refine below_set3 ?_ _ _))⟩
  
  · obtain ⟨y0, hy0⟩ : ∃ y, wB a 0 ((c.body.length : Int) - 1) = y := ⟨_, rfl⟩
    rw [hy0]
    have HY0 := Lib.hid hy0
    clear hy0
    cases y0
    · go_enter Tryd.func30, Tryd.ntmps30
      go_wp2_with fail
      refine (within_any _ _ _ _).mono ?_
      rintro e w' ⟨rfl, rfl⟩
      rw [HZ.out]
      go_wp2_with fail
      refine (within_any _ _ _ _).mono ?_
      rintro e w' ⟨rfl, rfl⟩
      rw [HY0.out]
      go_wp2_with fail
      all_goals
        go_ret
        exact ⟨by first | rfl | (simp; done) | (simp [*]; done) | (simp_all; done), (by repeat (first | exact Below.refl _ _ | refine below_alloc ?_ _ | refine below_drew2 ?_ | refine below_set3 ?_ _ _))⟩
    · obtain ⟨y1, hy1⟩ : ∃ y, wB b 0 1 = y := ⟨_, rfl⟩
      rw [hy1]
      have HY1 := Lib.hid hy1
      clear hy1
      cases y1
      · go_enter Tryd.func30, Tryd.ntmps30
        go_wp2_with fail
        refine (within_any _ _ _ _).mono ?_
        rintro e w' ⟨rfl, rfl⟩
        rw [HZ.out]
        go_wp2_with fail
        refine (within_any _ _ _ _).mono ?_
        rintro e w' ⟨rfl, rfl⟩
        rw [HY0.out]
        go_wp2_with fail
        refine (within_any _ _ _ _).mono ?_
        rintro e w' ⟨rfl, rfl⟩
        rw [HY1.out]
        go_wp2_with fail
        all_goals
          go_ret
          exact ⟨by first | rfl | (simp; done) | (simp [*]; done) | (simp_all; done), (by repeat (first | exact Below.refl _ _ | refine below_alloc ?_ _ | refine below_drew2 ?_ | refine below_set3 ?_ _ _))⟩
      · go_enter Tryd.func30, Tryd.ntmps30
        go_wp2_with fail
        refine (within_any _ _ _ _).mono ?_
        rintro e w' ⟨rfl, rfl⟩
        rw [HZ.out]
        go_wp2_with fail
        refine (within_any _ _ _ _).mono ?_
        rintro e w' ⟨rfl, rfl⟩
        rw [HY0.out]
        go_wp2_with fail
        refine (within_any _ _ _ _).mono ?_
        rintro e w' ⟨rfl, rfl⟩
        rw [HY1.out]
        go_wp2_with fail
        all_goals
          go_ret
          exact ⟨by first | rfl | (simp; done) | (simp [*]; done) | (simp_all; done), (by repeat (first | exact Below.refl _ _ | refine below_alloc ?_ _ | refine below_drew2 ?_ | refine below_set3 ?_ _ _))⟩
  
set_option maxRecDepth 100000 in
set_option maxHeartbeats 4000000 in
theorem instr_15 (c : Co) (x : Ins) (w : World) (hb : Bnd c) (hx : x.op = 15) : Calls Tryd.prog 30 #[c.agg, x.agg] w (Ret w (.bool (wB x.at_ 0 8192 && (wB x.a 0 (c.mux - 1) && (decide (x.b = 0) && decide (x.bits = 0)))))) := by
  have b1 := hb.np
  have b2 := hb.m0
  have b3 := hb.m1
  have b4 := hb.a0
  have b5 := hb.a1
  have b6 := hb.nc
  have b7 := hb.nf
  have b8 := hb.nb
  clear hb
  obtain ⟨op, a, b, bits, at_⟩ := x
  unfold Co.agg Ins.agg
  dsimp only at hx ⊢
  subst hx
  obtain ⟨z, hz⟩ : ∃ z, wB at_ 0 8192 = z := ⟨_, rfl⟩
  rw [hz]
  have HZ := Lib.hid hz
  clear hz
  cases z
  · go_enter Tryd.func30, Tryd.ntmps30
    go_wp2_with fail
    refine (within_any _ _ _ _).mono ?_
    rintro e w' ⟨rfl, rfl⟩
    rw [HZ.out]
    go_wp2_with fail
    all_goals
      go_ret
      exact ⟨by first | rfl | (simp; done) | (simp [*]; done) | (simp_all; done), (by repeat (first | exact Below.refl _ _ | refine below_alloc ?_ _ | refine below_drew2 ?_ | refine below_set3 ?_ _ _))⟩
  
  · obtain ⟨y0, hy0⟩ : ∃ y, wB a 0 (c.mux - 1) = y := ⟨_, rfl⟩
    rw [hy0]
    have HY0 := Lib.hid hy0
    clear hy0
    cases y0
    · go_enter Tryd.func30, Tryd.ntmps30
      go_wp2_with fail
      refine (within_any _ _ _ _).mono ?_
      rintro e w' ⟨rfl, rfl⟩
      rw [HZ.out]
      go_wp2_with fail
      refine (within_any _ _ _ _).mono ?_
      rintro e w' ⟨rfl, rfl⟩
      rw [HY0.out]
      go_wp2_with fail
      all_goals
        go_ret
        exact ⟨by first | rfl | (simp; done) | (simp [*]; done) | (simp_all; done), (by repeat (first | exact Below.refl _ _ | refine below_alloc ?_ _ | refine below_drew2 ?_ | refine below_set3 ?_ _ _))⟩
    · go_enter Tryd.func30, Tryd.ntmps30
      go_wp2_with fail
      refine (within_any _ _ _ _).mono ?_
      rintro e w' ⟨rfl, rfl⟩
      rw [HZ.out]
      go_wp2_with fail
      refine (within_any _ _ _ _).mono ?_
      rintro e w' ⟨rfl, rfl⟩
      rw [HY0.out]
      go_wp2_with fail
      all_goals
        go_ret
        exact ⟨by first | rfl | (simp; done) | (simp [*]; done) | (simp_all; done), (by repeat (first | exact Below.refl _ _ | refine below_alloc ?_ _ | refine below_drew2 ?_ | refine below_set3 ?_ _ _))⟩
  
set_option maxRecDepth 100000 in
set_option maxHeartbeats 4000000 in
theorem instr_16 (c : Co) (x : Ins) (w : World) (hb : Bnd c) (hx : x.op = 16) : Calls Tryd.prog 30 #[c.agg, x.agg] w (Ret w (.bool (wB x.at_ 0 8192 && (wB x.a 0 (c.mux - 1) && (decide (x.b = 0) && decide (x.bits = 0)))))) := by
  have b1 := hb.np
  have b2 := hb.m0
  have b3 := hb.m1
  have b4 := hb.a0
  have b5 := hb.a1
  have b6 := hb.nc
  have b7 := hb.nf
  have b8 := hb.nb
  clear hb
  obtain ⟨op, a, b, bits, at_⟩ := x
  unfold Co.agg Ins.agg
  dsimp only at hx ⊢
  subst hx
  obtain ⟨z, hz⟩ : ∃ z, wB at_ 0 8192 = z := ⟨_, rfl⟩
  rw [hz]
  have HZ := Lib.hid hz
  clear hz
  cases z
  · go_enter Tryd.func30, Tryd.ntmps30
    go_wp2_with fail
    refine (within_any _ _ _ _).mono ?_
    rintro e w' ⟨rfl, rfl⟩
    rw [HZ.out]
    go_wp2_with fail
    all_goals
      go_ret
      exact ⟨by first | rfl | (simp; done) | (simp [*]; done) | (simp_all; done), (by repeat (first | exact Below.refl _ _ | refine below_alloc ?_ _ | refine below_drew2 ?_ | refine below_set3 ?_ _ _))⟩
  
  · obtain ⟨y0, hy0⟩ : ∃ y, wB a 0 (c.mux - 1) = y := ⟨_, rfl⟩
    rw [hy0]
    have HY0 := Lib.hid hy0
    clear hy0
    cases y0
    · go_enter Tryd.func30, Tryd.ntmps30
      go_wp2_with fail
      refine (within_any _ _ _ _).mono ?_
      rintro e w' ⟨rfl, rfl⟩
      rw [HZ.out]
      go_wp2_with fail
      refine (within_any _ _ _ _).mono ?_
      rintro e w' ⟨rfl, rfl⟩
      rw [HY0.out]
      go_wp2_with fail
      all_goals
        go_ret
        exact ⟨by first | rfl | (simp; done) | (simp [*]; done) | (simp_all; done), (by repeat (first | exact Below.refl _ _ | refine below_alloc ?_ _ | refine below_drew2 ?_ | refine below_set3 ?_ _ _))⟩
    · go_enter Tryd.func30, Tryd.ntmps30
      go_wp2_with fail
      refine (within_any _ _ _ _).mono ?_
      rintro e w' ⟨rfl, rfl⟩
      rw [HZ.out]
      go_wp2_with fail
      refine (within_any _ _ _ _).mono ?_
      rintro e w' ⟨rfl, rfl⟩
      rw [HY0.out]
      go_wp2_with fail
      all_goals
        go_ret
        exact ⟨by first | rfl | (simp; done) | (simp [*]; done) | (simp_all; done), (by repeat (first | exact Below.refl _ _ | refine below_alloc ?_ _ | refine below_drew2 ?_ | refine below_set3 ?_ _ _))⟩
  
set_option maxRecDepth 100000 in
set_option maxHeartbeats 4000000 in
theorem instr_17 (c : Co) (x : Ins) (w : World) (hb : Bnd c) (hx : x.op = 17) : Calls Tryd.prog 30 #[c.agg, x.agg] w (Ret w (.bool (wB x.at_ 0 8192 && (wB x.a 0 ((c.chans.length : Int) - 1) && (decide (x.b = 0) && decide (x.bits = 0)))))) := by
  have b1 := hb.np
  have b2 := hb.m0
  have b3 := hb.m1
  have b4 := hb.a0
  have b5 := hb.a1
  have b6 := hb.nc
  have b7 := hb.nf
  have b8 := hb.nb
  clear hb
  obtain ⟨op, a, b, bits, at_⟩ := x
  unfold Co.agg Ins.agg
  dsimp only at hx ⊢
  subst hx
  obtain ⟨z, hz⟩ : ∃ z, wB at_ 0 8192 = z := ⟨_, rfl⟩
  rw [hz]
  have HZ := Lib.hid hz
  clear hz
  cases z
  · go_enter Tryd.func30, Tryd.ntmps30
    go_wp2_with fail
    refine (within_any _ _ _ _).mono ?_
    rintro e w' ⟨rfl, rfl⟩
    rw [HZ.out]
    go_wp2_with fail
    all_goals
      go_ret
      exact ⟨by first | rfl | (simp; done) | (simp [*]; done) | (simp_all; done), (by repeat (first | exact Below.refl _ _ | refine below_alloc ?_ _ | refine below_drew2 ?_ | refine below_set3 ?_ _ _))⟩
  
  · obtain ⟨y0, hy0⟩ : ∃ y, wB a 0 ((c.chans.length : Int) - 1) = y := ⟨_, rfl⟩
    rw [hy0]
    have HY0 := Lib.hid hy0
    clear hy0
    cases y0
    · go_enter Tryd.func30, Tryd.ntmps30
      go_wp2_with fail
      refine (within_any _ _ _ _).mono ?_
      rintro e w' ⟨rfl, rfl⟩
      rw [HZ.out]
      go_wp2_with fail
      refine (within_any _ _ _ _).mono ?_
      rintro e w' ⟨rfl, rfl⟩
      rw [HY0.out]
      go_wp2_with fail
      all_goals
        go_ret
        exact ⟨by first | rfl | (simp; done) | (simp [*]; done) | (simp_all; done), (by repeat (first | exact Below.refl _ _ | refine below_alloc ?_ _ | refine below_drew2 ?_ | refine below_set3 ?_ _ _))⟩
    · go_enter Tryd.func30, Tryd.ntmps30
      go_wp2_with fail
      refine (within_any _ _ _ _).mono ?_
      rintro e w' ⟨rfl, rfl⟩
      rw [HZ.out]
      go_wp2_with fail
      refine (within_any _ _ _ _).mono ?_
      rintro e w' ⟨rfl, rfl⟩
      rw [HY0.out]
      go_wp2_with fail
      all_goals
        go_ret
        exact ⟨by first | rfl | (simp; done) | (simp [*]; done) | (simp_all; done), (by repeat (first | exact Below.refl _ _ | refine below_alloc ?_ _ | refine below_drew2 ?_ | refine below_set3 ?_ _ _))⟩
  
set_option maxRecDepth 100000 in
set_option maxHeartbeats 4000000 in
theorem instr_18 (c : Co) (x : Ins) (w : World) (hb : Bnd c) (hx : x.op = 18) : Calls Tryd.prog 30 #[c.agg, x.agg] w (Ret w (.bool (wB x.at_ 0 8192 && (wB x.a 0 ((c.chans.length : Int) - 1) && (decide (x.b = 0) && decide (x.bits = 0)))))) := by
  have b1 := hb.np
  have b2 := hb.m0
  have b3 := hb.m1
  have b4 := hb.a0
  have b5 := hb.a1
  have b6 := hb.nc
  have b7 := hb.nf
  have b8 := hb.nb
  clear hb
  obtain ⟨op, a, b, bits, at_⟩ := x
  unfold Co.agg Ins.agg
  dsimp only at hx ⊢
  subst hx
  obtain ⟨z, hz⟩ : ∃ z, wB at_ 0 8192 = z := ⟨_, rfl⟩
  rw [hz]
  have HZ := Lib.hid hz
  clear hz
  cases z
  · go_enter Tryd.func30, Tryd.ntmps30
    go_wp2_with fail
    refine (within_any _ _ _ _).mono ?_
    rintro e w' ⟨rfl, rfl⟩
    rw [HZ.out]
    go_wp2_with fail
    all_goals
      go_ret
      exact ⟨by first | rfl | (simp; done) | (simp [*]; done) | (simp_all; done), (by repeat (first | exact Below.refl _ _ | refine below_alloc ?_ _ | refine below_drew2 ?_ | refine below_set3 ?_ _ _))⟩
  
  · obtain ⟨y0, hy0⟩ : ∃ y, wB a 0 ((c.chans.length : Int) - 1) = y := ⟨_, rfl⟩
    rw [hy0]
    have HY0 := Lib.hid hy0
    clear hy0
    cases y0
    · go_enter Tryd.func30, Tryd.ntmps30
      go_wp2_with fail
      refine (within_any _ _ _ _).mono ?_
      rintro e w' ⟨rfl, rfl⟩
      rw [HZ.out]
      go_wp2_with fail
      refine (within_any _ _ _ _).mono ?_
      rintro e w' ⟨rfl, rfl⟩
      rw [HY0.out]
      go_wp2_with fail
      all_goals
        go_ret
        exact ⟨by first | rfl | (simp; done) | (simp [*]; done) | (simp_all; done), (by repeat (first | exact Below.refl _ _ | refine below_alloc ?_ _ | refine below_drew2 ?_ | refine below_set3 ?_ _ _))⟩
    · go_enter Tryd.func30, Tryd.ntmps30
      go_wp2_with fail
      refine (within_any _ _ _ _).mono ?_
      rintro e w' ⟨rfl, rfl⟩
      rw [HZ.out]
      go_wp2_with fail
      refine (within_any _ _ _ _).mono ?_
      rintro e w' ⟨rfl, rfl⟩
      rw [HY0.out]
      go_wp2_with fail
      all_goals
        go_ret
        exact ⟨by first | rfl | (simp; done) | (simp [*]; done) | (simp_all; done), (by repeat (first | exact Below.refl _ _ | refine below_alloc ?_ _ | refine below_drew2 ?_ | refine below_set3 ?_ _ _))⟩
  
end Go.Proofs.YtbpbimkadiobfaaDoor
