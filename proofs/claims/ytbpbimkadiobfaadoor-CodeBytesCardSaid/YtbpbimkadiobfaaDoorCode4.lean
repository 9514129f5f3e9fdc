/-
  Bounds; types; what holds of all of a list; arrays of places.
-/
import Derived.Test.YtbpbimkadiobfaaDoorCode3
namespace Go.Proofs.YtbpbimkadiobfaaDoor
open Go.RowKit Go.Stk

def wB (n a b : Int) : Bool := decide (a ≤ n) && decide (n ≤ b)
theorem wB_t {n a b : Int} (h1 : a ≤ n) (h2 : n ≤ b) : wB n a b = true := by simp [wB, h1, h2]
theorem wB_f {n a b : Int} (h : n < a ∨ b < n) : wB n a b = false := by
  unfold wB
  rcases h with h | h
  · rw [decide_eq_false (by omega)]; rfl
  · rw [show decide (n ≤ b) = false from decide_eq_false (by omega)]; simp
theorem wB_iff (n a b : Int) : wB n a b = true ↔ a ≤ n ∧ n ≤ b := by simp [wB]
theorem within_any (n a b : Int) (w : World) : Calls Tryd.prog 50 #[.int .i64 n, .int .i64 a, .int .i64 b] w (fun e w' => e = .returned (.bool (wB n a b)) ∧ w = w') := by
  by_cases h1 : a ≤ n
  · have d1 : decide (a ≤ n) = true := decide_eq_true h1
    by_cases h2 : n ≤ b
    · have E := Lib.hid (wB_t h1 h2)
      have d2 : decide (n ≤ b) = true := decide_eq_true h2
      go_enter Tryd.func50, Tryd.ntmps50
      go_wp2_with fail
      go_ret
      exact ⟨by rw [E.out]; rfl, rfl⟩
    · have E := Lib.hid (wB_f (n := n) (a := a) (b := b) (by omega))
      have d2 : decide (n ≤ b) = false := decide_eq_false h2
      go_enter Tryd.func50, Tryd.ntmps50
      go_wp2_with fail
      go_ret
      exact ⟨by rw [E.out]; rfl, rfl⟩
  · have E := Lib.hid (wB_f (n := n) (a := a) (b := b) (by omega))
    have d1 : decide (a ≤ n) = false := decide_eq_false h1
    go_enter Tryd.func50, Tryd.ntmps50
    go_wp2_with fail
    go_ret
    exact ⟨by rw [E.out]; rfl, rfl⟩
def tyB (t : Int) : Bool := wB t 1 3
theorem typ_any (t : Int) (w : World) : Calls Tryd.prog 51 #[.int .i64 t] w (fun e w' => e = .returned (.bool (tyB t)) ∧ w = w') := by
  go_enter Tryd.func51, Tryd.ntmps51
  go_wp2_with fail
  refine (within_any t 1 3 w).mono ?_
  rintro e w' ⟨rfl, rfl⟩
  go_wp2_with fail
  go_ret
  exact ⟨rfl, rfl⟩
/-- The captured function asked, its answer turned. -/
theorem allC_any (n : Int) (g : FuncId) (caps : Array Value) (is : Int → Bool) (b : Nat) (w : World) (hc : w.cell? ⟨b, 0, none⟩ = some (.func (.func g) #[] caps)) (eg : ∀ (xs : Array Value) (W : World), (callFunc g xs).run Tryd.prog W = .ok (.enter g xs) W)
    (hg : Calls Tryd.prog g (#[.int .i64 n] ++ caps) w (Ret w (.bool (is n)))) :
    Calls Tryd.prog 61 (#[.int .i64 n] ++ #[.pointer (some ⟨b, 0, none⟩)]) w (Ret w (.bool (!is n))) := by
  have HG := Lib.hid hg
  clear hg
  show Calls Tryd.prog 61 #[.int .i64 n, .pointer (some ⟨b, 0, none⟩)] w _
  go_enter Tryd.func61, Tryd.ntmps61
  go_wp2_with fail
  refine HG.out.mono ?_
  rintro e w1 ⟨rfl, hb⟩
  have HB := Lib.hid hb
  clear hb
  obtain ⟨z, hz⟩ : ∃ z, is n = z := ⟨_, rfl⟩
  have HZ := Lib.hid hz
  rw [hz]
  clear hz
  cases z
  · go_wp2_with fail
    go_ret
    exact ⟨by rw [HZ.out]; rfl, HB.out⟩
  · go_wp2_with fail
    go_ret
    exact ⟨by rw [HZ.out]; rfl, HB.out⟩
theorem all_any (l : List Int) (g : FuncId) (caps : Array Value) (is : Int → Bool) (A : Option Addr) (c : Nat) (w : World) (hl : l.length ≤ 9223372036854775807) (h : Rs w A (ints l)) (eg : ∀ (xs : Array Value) (W : World), (callFunc g xs).run Tryd.prog W = .ok (.enter g xs) W)
    (hg : ∀ n W, Below w.heap.size w W → Calls Tryd.prog g (#[.int .i64 n] ++ caps) W (Ret W (.bool (is n)))) :
    Calls Tryd.prog 52 #[.slice A l.length c, .func (.func g) #[] caps] w (Ret w (.bool (l.all is))) := by
  have HB := Lib.hid (below_alloc (Below.refl w.heap.size w) (.cells #[.func (.func g) #[] caps] 74))
  have HC := Lib.hid (blk_new w (.cells #[.func (.func g) #[] caps] 74))
  have e61 : ∀ (xs : Array Value) (W : World), (callFunc 61 xs).run Tryd.prog W = .ok (.enter 61 xs) W := fun xs W => by simp [go_sem]
  have HK := Lib.hid (containsInt_any l 61 #[.pointer (some ⟨w.heap.size, 0, none⟩)] (fun n => !is n) A c _ hl (h.later HB.out) e61 fun n W hb => allC_any n g caps is w.heap.size W (by rw [blk_cell (blk_later hb HC.out)]; rfl) eg (hg n W (below_next HB.out hb)))
  have E : Hid (l.any (fun n => !is n) = !l.all is) := by show _ = _; rw [List.not_all_eq_any_not]
  clear h eg hg e61 HC
  go_enter Tryd.func52, Tryd.ntmps52
  go_wp2_with fail
  refine HK.out.mono ?_
  rintro e w1 ⟨rfl, hb1⟩
  have HB2 := Lib.hid (below_next HB.out hb1)
  clear hb1
  rw [E.out]
  obtain ⟨z, hz⟩ : ∃ z, l.all is = z := ⟨_, rfl⟩
  have HZ := Lib.hid hz
  rw [hz]
  clear hz E
  cases z
  · go_wp2_with fail
    go_ret
    exact ⟨by rw [HZ.out]; rfl, HB2.out⟩
  · go_wp2_with fail
    go_ret
    exact ⟨by rw [HZ.out]; rfl, HB2.out⟩
theorem allTyp_any (l : List Int) (A : Option Addr) (c : Nat) (w : World) (hl : l.length ≤ 9223372036854775807) (h : Rs w A (ints l)) : Calls Tryd.prog 52 #[.slice A l.length c, .func (.func 51) #[] #[]] w (Ret w (.bool (l.all tyB))) :=
  all_any l 51 #[] tyB A c w hl h (fun xs W => by simp [go_sem]) fun n W _ => ret_quiet (typ_any n W)
end Go.Proofs.YtbpbimkadiobfaaDoor
