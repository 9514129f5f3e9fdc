/-
  The document's answer on an instruction, by its number (10, 11).
-/
import Derived.Test.YtbpbimkadiobfaaDoorRIns0
import Derived.Deep.RegionLaw
import Derived.ChangeAlike
namespace Go.Proofs.YtbpbimkadiobfaaDoor
open Go.RowKit Go.Stk

set_option maxRecDepth 100000 in
set_option maxHeartbeats 4000000 in
theorem refI_10 (c : Co) (x : Ins) (w : World) (hb : Bnd c) (hx : x.op = 10) (hz : wB x.at_ 0 8192 = true) : Calls Tryd.prog 42 #[c.agg, x.agg] w (Ret w (.bool (wB x.a 1 4 && (decide (x.b = 0) && decide (x.bits = 0))))) := by
  have b1 := hb.np
  have b2 := hb.m0
  have b3 := hb.m1
  have b4 := hb.a0
  have b5 := hb.a1
  have b6 := hb.nc
  have b7 := hb.nf
  have b8 := hb.nb
  clear hb
  obtain ⟨op, a, b, bits, at_⟩ := x
  unfold Co.agg Ins.agg
  dsimp only at hx hz ⊢
  subst hx
  obtain ⟨t0, t1⟩ := (wB_iff _ _ _).1 hz
  have e0 : decide (at_ < 0) = false := decide_eq_false (by omega)
  have e1 : decide (8192 < at_) = false := decide_eq_false (by omega)
  clear hz
  unfold wB
  by_cases hd0 : 1 ≤ a
  · have dd0 : decide (1 ≤ a) = true := decide_eq_true hd0
    by_cases hd1 : a ≤ 4
    · have dd1 : decide (a ≤ 4) = true := decide_eq_true hd1
      by_cases hb : b = 0
      · have zb : (b == 0) = true := by simpa using hb
        by_cases hbits : bits = 0
        · have zbits : (bits == 0) = true := by simpa using hbits
          go_enter Tryd.func42, Tryd.ntmps42
          go_wp2_with fail
          all_goals
            go_ret
            exact ⟨by first | rfl | (simp; done) | (simp [*]; done) | (simp_all; done), (by repeat (first | exact Below.refl _ _ | refine below_alloc ?_ _))⟩
        · have zbits : (bits == 0) = false := by simpa using hbits
          go_enter Tryd.func42, Tryd.ntmps42
          go_wp2_with fail
          all_goals
            go_ret
            exact ⟨by first | rfl | (simp; done) | (simp [*]; done) | (simp_all; done), (by repeat (first | exact Below.refl _ _ | refine below_alloc ?_ _))⟩
      · have zb : (b == 0) = false := by simpa using hb
        go_enter Tryd.func42, Tryd.ntmps42
        go_wp2_with fail
        all_goals
          go_ret
          exact ⟨by first | rfl | (simp; done) | (simp [*]; done) | (simp_all; done), (by repeat (first | exact Below.refl _ _ | refine below_alloc ?_ _))⟩
    · have dd1 : decide (a ≤ 4) = false := decide_eq_false hd1
      go_enter Tryd.func42, Tryd.ntmps42
      go_wp2_with fail
      all_goals
        go_ret
        exact ⟨by first | rfl | (simp; done) | (simp [*]; done) | (simp_all; done), (by repeat (first | exact Below.refl _ _ | refine below_alloc ?_ _))⟩
  · have dd0 : decide (1 ≤ a) = false := decide_eq_false hd0
    go_enter Tryd.func42, Tryd.ntmps42
    go_wp2_with fail
    all_goals
      go_ret
      exact ⟨by first | rfl | (simp; done) | (simp [*]; done) | (simp_all; done), (by repeat (first | exact Below.refl _ _ | refine below_alloc ?_ _))⟩
set_option maxRecDepth 100000 in
set_option maxHeartbeats 4000000 in
theorem refI_11 (c : Co) (x : Ins) (w : World) (hb : Bnd c) (hx : x.op = 11) (hz : wB x.at_ 0 8192 = true) : Calls Tryd.prog 42 #[c.agg, x.agg] w (Ret w (.bool (wB x.a 1 11 && (decide (x.b = 0) && decide (x.bits = 0))))) := by
  have b1 := hb.np
  have b2 := hb.m0
  have b3 := hb.m1
  have b4 := hb.a0
  have b5 := hb.a1
  have b6 := hb.nc
  have b7 := hb.nf
  have b8 := hb.nb
  clear hb
  obtain ⟨op, a, b, bits, at_⟩ := x
  unfold Co.agg Ins.agg
  dsimp only at hx hz ⊢
  subst hx
  obtain ⟨t0, t1⟩ := (wB_iff _ _ _).1 hz
  have e0 : decide (at_ < 0) = false := decide_eq_false (by omega)
  have e1 : decide (8192 < at_) = false := decide_eq_false (by omega)
  clear hz
  unfold wB
  by_cases hd0 : 1 ≤ a
  · have dd0 : decide (1 ≤ a) = true := decide_eq_true hd0
    by_cases hd1 : a ≤ 11
    · have dd1 : decide (a ≤ 11) = true := decide_eq_true hd1
      by_cases hb : b = 0
      · have zb : (b == 0) = true := by simpa using hb
        by_cases hbits : bits = 0
        · have zbits : (bits == 0) = true := by simpa using hbits
          go_enter Tryd.func42, Tryd.ntmps42
          go_wp2_with fail
          all_goals
            go_ret
            exact ⟨by first | rfl | (simp; done) | (simp [*]; done) | (simp_all; done), (by repeat (first | exact Below.refl _ _ | refine below_alloc ?_ _))⟩
        · have zbits : (bits == 0) = false := by simpa using hbits
          go_enter Tryd.func42, Tryd.ntmps42
          go_wp2_with fail
          all_goals
            go_ret
            exact ⟨by first | rfl | (simp; done) | (simp [*]; done) | (simp_all; done), (by repeat (first | exact Below.refl _ _ | refine below_alloc ?_ _))⟩
      · have zb : (b == 0) = false := by simpa using hb
        go_enter Tryd.func42, Tryd.ntmps42
        go_wp2_with fail
        all_goals
          go_ret
          exact ⟨by first | rfl | (simp; done) | (simp [*]; done) | (simp_all; done), (by repeat (first | exact Below.refl _ _ | refine below_alloc ?_ _))⟩
    · have dd1 : decide (a ≤ 11) = false := decide_eq_false hd1
      go_enter Tryd.func42, Tryd.ntmps42
      go_wp2_with fail
      all_goals
        go_ret
        exact ⟨by first | rfl | (simp; done) | (simp [*]; done) | (simp_all; done), (by repeat (first | exact Below.refl _ _ | refine below_alloc ?_ _))⟩
  · have dd0 : decide (1 ≤ a) = false := decide_eq_false hd0
    go_enter Tryd.func42, Tryd.ntmps42
    go_wp2_with fail
    all_goals
      go_ret
      exact ⟨by first | rfl | (simp; done) | (simp [*]; done) | (simp_all; done), (by repeat (first | exact Below.refl _ _ | refine below_alloc ?_ _))⟩
set_option maxRecDepth 100000 in
set_option maxHeartbeats 4000000 in
theorem refI_at (c : Co) (x : Ins) (w : World) (hz : wB x.at_ 0 8192 = false) : Calls Tryd.prog 42 #[c.agg, x.agg] w (Ret w (.bool false)) := by
  obtain ⟨op, a, b, bits, at_⟩ := x
  unfold Co.agg Ins.agg
  dsimp only at hz ⊢
  by_cases h0 : at_ < 0
  · have e0 : decide (at_ < 0) = true := decide_eq_true h0
    clear hz
    go_enter Tryd.func42, Tryd.ntmps42
    go_wp2_with fail
    all_goals
      go_ret
      exact ⟨by first | rfl | (simp; done) | (simp [*]; done) | (simp_all; done), (by repeat (first | exact Below.refl _ _ | refine below_alloc ?_ _))⟩
  · have e0 : decide (at_ < 0) = false := decide_eq_false h0
    have e1 : decide (8192 < at_) = true := decide_eq_true (by
      by_cases h1 : at_ ≤ 8192
      · rw [wB_t (by omega) h1] at hz; cases hz
      · omega)
    clear hz
    go_enter Tryd.func42, Tryd.ntmps42
    go_wp2_with fail
    all_goals
      go_ret
      exact ⟨by first | rfl | (simp; done) | (simp [*]; done) | (simp_all; done), (by repeat (first | exact Below.refl _ _ | refine below_alloc ?_ _))⟩
set_option maxRecDepth 100000 in
set_option maxHeartbeats 4000000 in
theorem refI_none (c : Co) (x : Ins) (w : World) (hz : wB x.at_ 0 8192 = true) (h1 : (x.op == 1) = false) (h2 : (x.op == 2) = false) (h3 : (x.op == 3) = false) (h4 : (x.op == 4) = false) (h5 : (x.op == 5) = false) (h6 : (x.op == 6) = false) (h7 : (x.op == 7) = false) (h8 : (x.op == 8) = false) (h9 : (x.op == 9) = false) (h10 : (x.op == 10) = false) (h11 : (x.op == 11) = false) (h12 : (x.op == 12) = false) (h13 : (x.op == 13) = false) (h14 : (x.op == 14) = false) (h15 : (x.op == 15) = false) (h16 : (x.op == 16) = false) (h17 : (x.op == 17) = false) (h18 : (x.op == 18) = false) (h19 : (x.op == 19) = false) (h20 : (x.op == 20) = false) (h21 : (x.op == 21) = false) (h22 : (x.op == 22) = false) (h23 : (x.op == 23) = false) (h24 : (x.op == 24) = false) (h25 : (x.op == 25) = false) (h26 : (x.op == 26) = false) : Calls Tryd.prog 42 #[c.agg, x.agg] w (Ret w (.bool false)) := by
  obtain ⟨op, a, b, bits, at_⟩ := x
  unfold Co.agg Ins.agg
  dsimp only at hz h1 h2 h3 h4 h5 h6 h7 h8 h9 h10 h11 h12 h13 h14 h15 h16 h17 h18 h19 h20 h21 h22 h23 h24 h25 h26 ⊢
  obtain ⟨t0, t1⟩ := (wB_iff _ _ _).1 hz
  have e0 : decide (at_ < 0) = false := decide_eq_false (by omega)
  have e1 : decide (8192 < at_) = false := decide_eq_false (by omega)
  clear hz
  go_enter Tryd.func42, Tryd.ntmps42
  go_wp2_with fail
  all_goals
    go_ret
    exact ⟨by first | rfl | (simp; done) | (simp [*]; done) | (simp_all; done), (by repeat (first | exact Below.refl _ _ | refine below_alloc ?_ _))⟩
end Go.Proofs.YtbpbimkadiobfaaDoor
