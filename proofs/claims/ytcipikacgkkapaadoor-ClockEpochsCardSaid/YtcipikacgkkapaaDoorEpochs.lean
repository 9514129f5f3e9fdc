/-
  ClockEpochs: an epoch is at most a clock just as its count is: the law's walk.
-/
import Derived.Test.YtcipikacgkkapaaDoorWd
import Derived.Test.YtcipikacgkkapaaDoorPlain
import Derived.Test.YtcipikacgkkapaaDoorWe
import Derived.Deep.RegionHeld3
namespace Go.Proofs.YtcipikacgkkapaaDoor
open Go.RowKit Go.Stk
attribute [local go_sem] max2_int max_two

/-- What the region's calls leave. -/
def Kp (a b : List Int) (A B : Option Addr) (w W : World) : Prop := RI W A a ∧ RI W B b ∧ Below w.heap.size w W
theorem Kp.later {a b : List Int} {A B : Option Addr} {w W W' : World} (h : Kp a b A B w W) (hb : Below W.heap.size W W') : Kp a b A B w W' :=
  ⟨h.1.later hb, h.2.1.later hb, below_next h.2.2 hb⟩
theorem Kp.drew {a b : List Int} {A B : Option Addr} {w W : World} (h : Kp a b A B w W) : Kp a b A B w W.drew := h.later (Below.refl _ _).drew

set_option maxHeartbeats 1000000 in
theorem epochs_any (a b : List Int) (A B : Option Addr) (ca cb : Nat) (g n : Int) (w : World) (ra0 : RI w A a) (rb0 : RI w B b) (hla : a.length ≤ 2000) (hlb : b.length ≤ 2000) :
    Calls Tryd.prog 7 #[.agg #[.int .i64 g, .int .i64 n], .slice A a.length ca, .slice B b.length cb] w (Ret w (.bool true)) := by
  have HRA := Lib.hid ra0
  have HRB := Lib.hid rb0
  clear ra0 rb0
  go_enter Tryd.func7, Tryd.ntmps7
  go_wp2_with fail
  obtain ⟨w0, hw0⟩ : ∃ w0, w0 = w.alloc (.cells #[.int .i64 g, .int .i64 n] 36) := ⟨_, rfl⟩
  have hb0 : Below w.heap.size w w0 := by rw [hw0]; exact (Below.refl _ _).alloc (Nat.le_refl _) _
  have k0 : w0.cell? ⟨w.heap.size, 0, none⟩ = some (.int .i64 g) := by rw [hw0, World.cell?_alloc_new]; rfl
  have k1 : w0.cell? ⟨w.heap.size, 1, none⟩ = some (.int .i64 n) := by rw [hw0, World.cell?_alloc_new]; rfl
  rw [← hw0]
  clear hw0
  refine (alive_any w0).mono ?_
  rintro e w1 ⟨rfl, hb1⟩
  have c0 := cell_later hb1 k0
  have c1 := cell_later hb1 k1
  replace hb1 := below_next hb0 hb1
  have ra := HRA.out.later hb1
  have rb := HRB.out.later hb1
  clear k0 k1 hb0 HRA HRB
  go_wp2_with fail
  have hk : Kp a b A B w w1.drew := Kp.drew ⟨ra, rb, hb1⟩
  go_region_held3 (fun w' => w'.cell? ⟨w.heap.size, 0, none⟩ = some (.int .i64 g) ∧ w'.cell? ⟨w.heap.size, 1, none⟩ = some (.int .i64 n) ∧ Kp a b A B w w')
    (first | exact ⟨c0, c1, hk⟩ | (go_split_ands; exact ⟨cell_later hbx (by assumption), cell_later hbx (by assumption), Kp.later (by assumption) hbx⟩) | (go_split_ands; exact ⟨by assumption, by assumption, by assumption⟩))
    (first
      | (go_at_call 19; refine (eAtMost_any a A ca g n _ ?_).mono ?_; (go_split_ands; exact (show Kp a b A B w _ by assumption).1); rintro e w' ⟨rfl, hbx⟩)
      | (go_at_call 20; refine (at_any a A ca g _ ?_).mono ?_; (go_split_ands; exact (show Kp a b A B w _ by assumption).1); rintro e w' ⟨rfl, rfl⟩))
  go_wp2_with fail
  have c0' : w'.cell? ⟨w.heap.size, 0, none⟩ = some (.int .i64 g) := cell_later hbx c0
  have c1' : w'.cell? ⟨w.heap.size, 1, none⟩ = some (.int .i64 n) := cell_later hbx c1
  have hk' : Kp a b A B w w' := hk.later hbx
  clear c0 c1 hb1 ra rb hk hbx
  obtain ⟨ra, rb, hb⟩ := hk'
  cases hab : atMost a b
  · refine (atMost_any a b A B ca cb w' ra rb (by omega) (by omega)).mono ?_
    rintro e w2 ⟨rfl, hbx⟩
    replace hb := below_next hb hbx
    rw [hab]
    go_wp2_with fail
    go_ret
    exact ⟨rfl, hb⟩
  · have H1 := Lib.hid (decide_eq_true ((atMost_iff a b).1 hab g))
    have H2 := Lib.hid ((atMost_iff a b).1 hab g)
    have hj := atMost_any a b A B ca cb w' ra rb (by omega) (by omega)
    rw [hab] at hj
    refine hj.mono ?_
    rintro e w2 ⟨rfl, hbx⟩
    clear hj hab
    replace c0' := cell_later hbx c0'
    replace c1' := cell_later hbx c1'
    replace ra := ra.later hbx
    replace rb := rb.later hbx
    replace hb := below_next hb hbx
    clear hbx
    go_wp2_with fail
    refine (of_any a A ca g w2 ra).mono ?_
    rintro e w3 ⟨rfl, hbx⟩
    replace c0' := cell_later hbx c0'
    replace c1' := cell_later hbx c1'
    replace ra := ra.later hbx
    replace rb := rb.later hbx
    replace hb := below_next hb hbx
    clear hbx
    go_wp2_with fail
    have hj := eAtMost_any b B cb g (getL a g) w3 rb
    rw [H1.out] at hj
    refine hj.mono ?_
    rintro e w4 ⟨rfl, hbx⟩
    clear hj
    replace c0' := cell_later hbx c0'
    replace c1' := cell_later hbx c1'
    replace ra := ra.later hbx
    replace rb := rb.later hbx
    replace hb := below_next hb hbx
    clear hbx
    go_wp2_with fail
    by_cases hn : n ≤ getL a g
    · have hj := eAtMost_any a A ca g n w4 ra
      rw [decide_eq_true hn] at hj
      refine hj.mono ?_
      rintro e w5 ⟨rfl, hbx⟩
      clear hj
      replace c0' := cell_later hbx c0'
      replace c1' := cell_later hbx c1'
      replace rb := rb.later hbx
      replace hb := below_next hb hbx
      clear hbx
      go_wp2_with fail
      have hj := eAtMost_any b B cb g n w5 rb
      rw [decide_eq_true (Int.le_trans hn H2.out)] at hj
      refine hj.mono ?_
      rintro e w6 ⟨rfl, hbx⟩
      clear hj
      replace hb := below_next hb hbx
      go_wp2_with fail
      go_ret
      exact ⟨rfl, hb⟩
    · have hj := eAtMost_any a A ca g n w4 ra
      rw [decide_eq_false hn] at hj
      refine hj.mono ?_
      rintro e w5 ⟨rfl, hbx⟩
      clear hj
      replace hb := below_next hb hbx
      go_wp2_with fail
      go_ret
      exact ⟨rfl, hb⟩

theorem epochs_long (a b : List Int) (A B : Option Addr) (ca cb : Nat) (g n : Int) (w : World) (hl : 2000 < a.length ∨ 2000 < b.length) (_h1 : a.length ≤ 9223372036854775807) (_h2 : b.length ≤ 9223372036854775807) :
    Calls Tryd.prog 7 #[.agg #[.int .i64 g, .int .i64 n], .slice A a.length ca, .slice B b.length cb] w (Ret w (.bool true)) := by
  by_cases h0 : 2000 < a.length
  · clear hl
    go_enter Tryd.func7, Tryd.ntmps7
    go_wp2_with fail
    refine (alive_any _).mono ?_
    rintro e w1 ⟨rfl, hb1⟩
    replace hb1 := below_next ((Below.refl _ _).alloc (Nat.le_refl _) _) hb1
    go_wp2_with fail
    go_ret
    exact ⟨rfl, hb1⟩
  · have h1 : 2000 < b.length := by omega
    clear hl
    go_enter Tryd.func7, Tryd.ntmps7
    go_wp2_with fail
    refine (alive_any _).mono ?_
    rintro e w1 ⟨rfl, hb1⟩
    replace hb1 := below_next ((Below.refl _ _).alloc (Nat.le_refl _) _) hb1
    go_wp2_with fail
    go_ret
    exact ⟨rfl, hb1⟩
end Go.Proofs.YtcipikacgkkapaaDoor
