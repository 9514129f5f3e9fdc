/-
  The walks of the clock's functions, part two: AtMost, Same, Apart, Tick, Of, and an epoch's AtMost.
-/
import Derived.Test.YtcipikacgkkapaaDoorWa
namespace Go.Proofs.YtcipikacgkkapaaDoor
open Go.RowKit Go.Stk
attribute [local go_sem] max2_int max_two

/-- A function that only reads and makes memory of its own returns v. -/
def Ret (w : World) (v : Value) (e : Ending) (w' : World) : Prop := e = .returned v ∧ Below w.heap.size w w'

theorem Own.ri {w : World} {B : Nat} {v : Value} {xs : List Int} (h : Own w B v xs) : ∃ A c, v = .slice A xs.length c ∧ xs.length ≤ c ∧ RI w A xs := own_ri h

theorem trim_len (l : List Int) : (trim l).length ≤ l.length := by
  simp only [trim, List.length_reverse]
  refine Nat.le_trans (List.Sublist.length_le (List.dropWhile_sublist _)) (by simp)
theorem joinL_len (xs ys : List Int) : (joinL xs ys).length ≤ max xs.length ys.length := by
  refine Nat.le_trans (trim_len _) (by rw [joinRaw_len]; omega)

/-- AtMost, as lists. -/
def atMost (xs ys : List Int) : Bool := decide (joinL xs ys = joinL ys [])

theorem atMost_any (xs ys : List Int) (A B : Option Addr) (ca cb : Nat) (w : World) (hx : RI w A xs) (hy : RI w B ys) (hxs : xs.length ≤ 1000000000) (hys : ys.length ≤ 1000000000) :
    Calls Tryd.prog 15 #[.slice A xs.length ca, .slice B ys.length cb] w (Ret w (.bool (atMost xs ys))) := by
  go_enter Tryd.func15, Tryd.ntmps15
  go_wp2_with fail
  refine (join_any xs ys A B ca cb w hx hy hxs hys).mono ?_
  rintro e w1 ⟨v1, rfl, ho1, hb1⟩
  go_wp2_with fail
  refine (short_any ys B cb w1 (hy.later hb1) hys).mono ?_
  rintro e w2 ⟨v2, rfl, ho2, hb2⟩
  obtain ⟨A1, c1, rfl, _, r1⟩ := ho1.ri
  obtain ⟨A2, c2, rfl, _, r2⟩ := ho2.ri
  go_wp2_with fail
  refine (equal_any (joinL xs ys) (joinL ys []) A1 A2 c1 c2 w2 (r1.later hb2) r2).mono ?_
  rintro e w3 ⟨rfl, hb3⟩
  go_wp2_with fail
  go_ret
  exact ⟨rfl, (below_then hb1 hb1.size hb2).trans (hb3.mono (Nat.le_trans hb1.size hb2.size))⟩

theorem same_any (xs ys : List Int) (A B : Option Addr) (ca cb : Nat) (w : World) (hx : RI w A xs) (hy : RI w B ys) (hxs : xs.length ≤ 1000000000) (hys : ys.length ≤ 1000000000) :
    Calls Tryd.prog 16 #[.slice A xs.length ca, .slice B ys.length cb] w (Ret w (.bool (atMost xs ys && atMost ys xs))) := by
  go_enter Tryd.func16, Tryd.ntmps16
  go_wp2_with fail
  refine (atMost_any xs ys A B ca cb w hx hy hxs hys).mono ?_
  rintro e w1 ⟨rfl, hb1⟩
  cases h1 : atMost xs ys
  · go_wp2_with fail
    go_ret
    exact ⟨by rw [h1]; rfl, hb1⟩
  · go_wp2_with fail
    refine (atMost_any ys xs B A cb ca w1 (hy.later hb1) (hx.later hb1) hys hxs).mono ?_
    rintro e w2 ⟨rfl, hb2⟩
    go_wp2_with fail
    go_ret
    exact ⟨by rw [h1]; rfl, below_then hb1 hb1.size hb2⟩

theorem apart_any (xs ys : List Int) (A B : Option Addr) (ca cb : Nat) (w : World) (hx : RI w A xs) (hy : RI w B ys) (hxs : xs.length ≤ 1000000000) (hys : ys.length ≤ 1000000000) :
    Calls Tryd.prog 18 #[.slice A xs.length ca, .slice B ys.length cb] w (Ret w (.bool (!atMost xs ys && !atMost ys xs))) := by
  go_enter Tryd.func18, Tryd.ntmps18
  go_wp2_with fail
  refine (atMost_any xs ys A B ca cb w hx hy hxs hys).mono ?_
  rintro e w1 ⟨rfl, hb1⟩
  cases h1 : atMost xs ys
  · go_wp2_with fail
    refine (atMost_any ys xs B A cb ca w1 (hy.later hb1) (hx.later hb1) hys hxs).mono ?_
    rintro e w2 ⟨rfl, hb2⟩
    cases h2 : atMost ys xs
    all_goals
      go_wp2_with fail
      go_ret
      exact ⟨by rw [h1, h2]; rfl, below_then hb1 hb1.size hb2⟩
  · go_wp2_with fail
    go_ret
    exact ⟨by rw [h1]; rfl, hb1⟩

theorem of_any (xs : List Int) (A : Option Addr) (ca : Nat) (g : Int) (w : World) (hx : RI w A xs) :
    Calls Tryd.prog 21 #[.slice A xs.length ca, .int .i64 g] w (Ret w (.agg #[.int .i64 g, .int .i64 (getL xs g)])) := by
  go_enter Tryd.func21, Tryd.ntmps21
  go_wp2_with fail
  refine (get_any xs A ca g _ (hx.later ((Below.refl _ _).alloc (Nat.le_refl _) _))).mono ?_
  rintro e w1 ⟨rfl, rfl⟩
  go_wp2_with fail
  exact bodyPost_ret (v := .agg #[.int .i64 g, .int .i64 (getL xs g)]) (by simp [results, Tryd.results21, go_sem]) rfl ⟨rfl, (Below.refl _ _).alloc (Nat.le_refl _) _⟩

theorem eAtMost_any (xs : List Int) (A : Option Addr) (ca : Nat) (g n : Int) (w : World) (hx : RI w A xs) :
    Calls Tryd.prog 19 #[.agg #[.int .i64 g, .int .i64 n], .slice A xs.length ca] w (Ret w (.bool (decide (n ≤ getL xs g)))) := by
  have hr : ∀ o m, RI ((w.alloc o).drewN m) A xs := fun o m => hx.later (below_drewN ((Below.refl w.heap.size w).alloc (Nat.le_refl _) o) m)
  have HR := Lib.hid hr
  clear hr
  go_enter Tryd.func19, Tryd.ntmps19
  go_wp2_with fail
  go_quiet ((go_at_call 12; exact Calls.quiet_of_same ((get_any xs A ca g _ (HR.out _ _)).mono fun _ _ ⟨h, h2⟩ => ⟨h, h2.symm⟩)))
  go_wp2_with fail
  go_ret
  exact ⟨rfl, below_drewN ((Below.refl _ _).alloc (Nat.le_refl _) _) _⟩
end Go.Proofs.YtcipikacgkkapaaDoor
