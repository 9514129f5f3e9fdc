/-
  The walk of ValueThere.
-/
import Derived.Test.YtdeabmijoaepcaaInts
import Derived.Test.YtdeabmijoaepcaaFlt3
import Derived.Deep.RegionHeld3
namespace Go.Proofs.Ytdeabmijoaepcaa
open Go.RowKit Go.Stk
set_option maxHeartbeats 8000000

theorem unTo (m : Int) (w : World) : Calls Try.prog 13 #[.string ⟨#[102, 108, 111, 97, 116]⟩, .agg #[.int .i64 1, .int .i64 m, .int .u64 0]] w (Ret w (.tuple #[.agg #[.int .i64 2, .int .i64 0, .int .u64 (floatOfInt .f64 m : Nat)], .int .i64 0])) := by
  have := unary_any ⟨#[102, 108, 111, 97, 116]⟩ ⟨1, m, 0⟩ w
  rw [bl] at this; exact this
theorem unFrom (m : Int) (w : World) (h : Hid (m.natAbs < 9007199254740992)) : Calls Try.prog 13 #[.string ⟨#[105, 110, 116]⟩, .agg #[.int .i64 2, .int .i64 0, .int .u64 (floatOfInt .f64 m : Nat)]] w (Ret w (.tuple #[.agg #[.int .i64 1, .int .i64 m, .int .u64 0], .int .i64 0])) := by
  have := unary_any ⟨#[105, 110, 116]⟩ ⟨2, 0, (floatOfInt .f64 m : Nat)⟩ w
  rw [bl, show unR (Array.toList #[105, 110, 116]) ⟨2, 0, (floatOfInt .f64 m : Nat)⟩ = toIntR (floatOfInt .f64 m) by simp [unR, Val.good], toIntR_ofInt m h] at this
  exact this
theorem keep3 {B0 : Nat} {u0 v0 z0 : Value} {B1 : Nat} {u1 v1 z1 : Value} {B2 : Nat} {u2 v2 z2 : Value} {n : Nat} {w W W' : World} (h0 : L3 B0 u0 v0 z0 W) (h1 : L3 B1 u1 v1 z1 W) (h2 : L3 B2 u2 v2 z2 W) (hb : Below n w W) (hn : n ≤ W.heap.size) (hbx : Below W.heap.size W W') : W'.cell? ⟨B0, 0, none⟩ = some u0 ∧ W'.cell? ⟨B0, 1, none⟩ = some v0 ∧ W'.cell? ⟨B0, 2, none⟩ = some z0 ∧ B0 < W'.heap.size ∧ W'.cell? ⟨B1, 0, none⟩ = some u1 ∧ W'.cell? ⟨B1, 1, none⟩ = some v1 ∧ W'.cell? ⟨B1, 2, none⟩ = some z1 ∧ B1 < W'.heap.size ∧ W'.cell? ⟨B2, 0, none⟩ = some u2 ∧ W'.cell? ⟨B2, 1, none⟩ = some v2 ∧ W'.cell? ⟨B2, 2, none⟩ = some z2 ∧ B2 < W'.heap.size ∧ L3 B0 u0 v0 z0 W' ∧ L3 B1 u1 v1 z1 W' ∧ L3 B2 u2 v2 z2 W' ∧ n ≤ W'.heap.size ∧ Below n w W' :=
  ⟨(h0.later hbx).c0, (h0.later hbx).c1, (h0.later hbx).c2, (h0.later hbx).sz, (h1.later hbx).c0, (h1.later hbx).c1, (h1.later hbx).c2, (h1.later hbx).sz, (h2.later hbx).c0, (h2.later hbx).c1, (h2.later hbx).c2, (h2.later hbx).sz, h0.later hbx, h1.later hbx, h2.later hbx, Nat.le_trans hn hbx.size, below_then hb hn hbx⟩

theorem there_law (n : Int) (w : World) : Calls Try.prog 6 #[.int .i64 n] w (Ret w (.bool true)) := by
  have HM := Lib.hid (show (n.tmod 9007199254740992).natAbs < 9007199254740992 by rw [Int.natAbs_tmod]; exact Nat.mod_lt _ (by decide))
  go_enter Try.func6, Try.ntmps6
  go_wp2_with fail
  refine (alive_any w).mono ?_
  rintro e w1 ⟨rfl, hbx⟩
  have hb := hbx
  clear hbx
  go_wp2_with fail
  refine (valInt_any (n.tmod 9007199254740992) w1).mono ?_
  rintro e w2 ⟨rfl, hbx⟩
  replace hb := below_next hb hbx
  clear hbx
  go_wp2_with fail
  refine (unTo (n.tmod 9007199254740992) w2).mono ?_
  rintro e w3 ⟨rfl, hbx⟩
  replace hb := below_next hb hbx
  clear hbx
  go_wp2_with fail
  refine (unFrom (n.tmod 9007199254740992) (w3.alloc (.cells #[.int .i64 2, .int .i64 0, .int .u64 (floatOfInt .f64 (n.tmod 9007199254740992) : Nat)] 24)) HM).mono ?_
  rintro e w4 ⟨rfl, hbx⟩
  have pf := (lc3_new w3 (.int .i64 2) (.int .i64 0) (.int .u64 (floatOfInt .f64 (n.tmod 9007199254740992) : Nat)) 24)
  replace pf := pf.later hbx
  replace hbx := below_next (below_alloc (Below.refl w3.heap.size w3) (.cells #[.int .i64 2, .int .i64 0, .int .u64 (floatOfInt .f64 (n.tmod 9007199254740992) : Nat)] 24)) hbx
  replace hb := below_next hb hbx
  clear hbx
  obtain ⟨c0pf, c1pf, c2pf, szpf⟩ := pf.all
  go_wp2_with fail
  refine (unTo (n.tmod 9007199254740992) (w4.alloc (.cells #[.int .i64 1, .int .i64 (n.tmod 9007199254740992), .int .u64 0] 24))).mono ?_
  rintro e w5 ⟨rfl, hbx⟩
  have pb := (lc3_new w4 (.int .i64 1) (.int .i64 (n.tmod 9007199254740992)) (.int .u64 0) 24)
  replace pb := pb.later hbx
  replace hbx := below_next (below_alloc (Below.refl w4.heap.size w4) (.cells #[.int .i64 1, .int .i64 (n.tmod 9007199254740992), .int .u64 0] 24)) hbx
  replace pf := pf.later hbx
  replace hb := below_next hb hbx
  clear hbx
  obtain ⟨c0pf, c1pf, c2pf, szpf⟩ := pf.all
  obtain ⟨c0pb, c1pb, c2pb, szpb⟩ := pb.all
  go_wp2_with fail
  have pg := (lc3_new w5 (.int .i64 2) (.int .i64 0) (.int .u64 (floatOfInt .f64 (n.tmod 9007199254740992) : Nat)) 24)
  replace pg := pg.later (Below.refl (w5.alloc (.cells #[.int .i64 2, .int .i64 0, .int .u64 (floatOfInt .f64 (n.tmod 9007199254740992) : Nat)] 24)).heap.size (w5.alloc (.cells #[.int .i64 2, .int .i64 0, .int .u64 (floatOfInt .f64 (n.tmod 9007199254740992) : Nat)] 24))).drew
  have hbx := Below.drew (below_alloc (Below.refl w5.heap.size w5) (.cells #[.int .i64 2, .int .i64 0, .int .u64 (floatOfInt .f64 (n.tmod 9007199254740992) : Nat)] 24))
  replace pf := pf.later hbx
  replace pb := pb.later hbx
  replace hb := below_next hb hbx
  clear hbx
  have hsz : w.heap.size ≤ w.heap.size := Nat.le_refl _
  have hS := keep3 pf pb pg hb hb.size (Below.refl _ _)
  clear pf pb pg hb
  go_region_held3 (fun w' => w'.cell? ⟨w3.heap.size, 0, none⟩ = some (.int .i64 2) ∧ w'.cell? ⟨w3.heap.size, 1, none⟩ = some (.int .i64 0) ∧ w'.cell? ⟨w3.heap.size, 2, none⟩ = some (.int .u64 (floatOfInt .f64 (n.tmod 9007199254740992) : Nat)) ∧ w3.heap.size < w'.heap.size ∧ w'.cell? ⟨w4.heap.size, 0, none⟩ = some (.int .i64 1) ∧ w'.cell? ⟨w4.heap.size, 1, none⟩ = some (.int .i64 (n.tmod 9007199254740992)) ∧ w'.cell? ⟨w4.heap.size, 2, none⟩ = some (.int .u64 0) ∧ w4.heap.size < w'.heap.size ∧ w'.cell? ⟨w5.heap.size, 0, none⟩ = some (.int .i64 2) ∧ w'.cell? ⟨w5.heap.size, 1, none⟩ = some (.int .i64 0) ∧ w'.cell? ⟨w5.heap.size, 2, none⟩ = some (.int .u64 (floatOfInt .f64 (n.tmod 9007199254740992) : Nat)) ∧ w5.heap.size < w'.heap.size ∧ L3 (w3.heap.size) (.int .i64 2) (.int .i64 0) (.int .u64 (floatOfInt .f64 (n.tmod 9007199254740992) : Nat)) w' ∧ L3 (w4.heap.size) (.int .i64 1) (.int .i64 (n.tmod 9007199254740992)) (.int .u64 0) w' ∧ L3 (w5.heap.size) (.int .i64 2) (.int .i64 0) (.int .u64 (floatOfInt .f64 (n.tmod 9007199254740992) : Nat)) w' ∧ w.heap.size ≤ w'.heap.size ∧ Below w.heap.size w w')
    (first | exact hS | assumption | (go_split_ands; refine keep3 ?_ ?_ ?_ ?_ ?_ hbx <;> assumption))
    (first
      | (go_at_call 17; refine (valInt_any _ _).mono ?_; rintro e w' ⟨rfl, hbx⟩))
  all_goals
    go_wp2
    go_ret
    exact ⟨rfl, (show _ ∧ _ ∧ _ ∧ _ ∧ _ ∧ _ ∧ _ ∧ _ ∧ _ ∧ _ ∧ _ ∧ _ ∧ _ ∧ _ ∧ _ ∧ _ ∧ Below w.heap.size w _ by assumption).2.2.2.2.2.2.2.2.2.2.2.2.2.2.2.2⟩
end Go.Proofs.Ytdeabmijoaepcaa
