/-
  A copy of ints with marked room behind; whether list and room stand as they stood.
-/
import Derived.Test.YtpjphmpebegidaaDoorSame2
import Derived.Test.YtpjphmpebegidaaDoorPool8
namespace Go.Proofs.YtpjphmpebegidaaDoor
open Go.RowKit Go.Stk

def marks : List Int := [-91, -92, -93, -94]
/-- The row at g: the list, and the four marks behind. -/
def Marked (w : World) (g : Nat) (xs : List Int) : Prop := ∀ (j : Nat) (h : j < (xs ++ marks).length), w.cell? ⟨g, j, none⟩ = some (.int .i64 (xs ++ marks)[j])
theorem Marked.later {w w1 : World} {g : Nat} {xs : List Int} (h : Marked w g xs) (hb : Below w.heap.size w w1) : Marked w1 g xs := fun j hj => cell_later hb (h j hj)
theorem Marked.ri {w : World} {g : Nat} {xs : List Int} (h : Marked w g xs) (hl : xs.length ≤ 9223372036854775807) : RI w (some ⟨g, 0, none⟩) xs := by
  refine ⟨by simp [maxLen]; omega, fun _ => ⟨g, 0, rfl, fun j hj => ?_⟩⟩
  simp only [ints_length] at hj
  rw [Nat.zero_add, h j (by simp; omega)]
  simp [ints, hj]

/-- A copy: marked, in memory of the call's own. -/
def Copied (w : World) (xs : List Int) (e : Ending) (w' : World) : Prop := ∃ g c, e = .returned (.slice (some ⟨g, 0, none⟩) xs.length c) ∧ xs.length + 4 ≤ c ∧ c ≤ 9223372036854775807 ∧ Marked w' g xs ∧ Below w.heap.size w w'

set_option maxHeartbeats 1000000 in
theorem ints_any (xs : List Int) (A : Option Addr) (c : Nat) (w : World) (hx : RI w A xs) (hnil : A = none → c = 0) (hl : xs.length ≤ 17592186043904) :
    Calls Tryd.prog 25 #[.slice A xs.length c] w (Copied w xs) := by
  have hmk := make_room (P := Tryd.prog) 37 3 (.int .i64 0) 8 Tryd.underlying37 infoInt3 rfl (by decide) (xs.length + 4) (by omega)
  rw [show ((xs.length + 4 : Nat) : Int) = (xs.length : Int) + 4 by omega] at hmk
  go_enter Tryd.func25, Tryd.ntmps25
  have hW : ∀ W : World, W = w.alloc (.cells (madeCells #[.int .i64 0] (xs.length + 4)) 3) → Below w.heap.size w W := fun W h => by rw [h]; exact (Below.refl _ _).alloc (Nat.le_refl _) _
  have ho : (w.alloc (.cells (madeCells #[.int .i64 0] (xs.length + 4)) 3)).ownsRow w.heap.size 3 1 (.slice (some ⟨w.heap.size, 0, none⟩) 0 (xs.length + 4)) 0 [] := by
    have := own_room w w.heap.size 3 (madeCells #[.int .i64 0] (xs.length + 4)) (Nat.le_refl _) (by simp [size_madeCells, maxLen]; omega)
    simpa [size_madeCells] using this
  have HO := Lib.hid ho
  have HB := Lib.hid (hW _ rfl)
  clear ho hW
  go_wp2_with (first | (at_builtin; have tok := HO; refine append_list (w0 := w) w.heap.size rfl _ _ 37 3 (.int .i64 0) 8 rfl Tryd.underlying37 infoInt3 rfl (by decide) _ [] (ints xs) A c rfl (by rw [ints_length]; rfl) ?c1 HO.out HB.out ?c2 ?c3 hnil ?c4 ?_))
  case c1 => intro u hu; simp only [ints, List.mem_map] at hu; obtain ⟨n, _, rfl⟩ := hu; rfl
  case c2 => exact HB.out.size
  case c3 => exact hx.later HB.out
  case c4 => simp; omega
  intro v1 w1 hown hb1 _
  clear hmk HO HB
  replace hown : w1.ownsRow w.heap.size 3 1 v1 (ints xs).length (ints xs) := by simpa using hown
  go_wp2_with (first | (at_builtin; refine append_list (w0 := w) w.heap.size rfl _ _ 37 3 (.int .i64 0) 8 rfl Tryd.underlying37 infoInt3 rfl (by decide) v1 (ints xs) (ints marks) (some ⟨w1.heap.size, 0, none⟩) 4 rfl rfl ?d1 (hown.alloc _) (hb1.alloc hb1.size _) ?d2 ?d3 (by intro h; cases h) ?d4 ?_))
  case d1 => intro u hu; simp only [ints, List.mem_map] at hu; obtain ⟨n, _, rfl⟩ := hu; rfl
  case d2 => have := hb1.size; simp; omega
  case d3 => exact rd_blk (T := 3) (cs := ints marks) (blk_new w1 _) (by decide)
  case d4 => simp [marks]; omega
  intro v2 w2 hown2 hb2 _
  clear hown hb1
  obtain ⟨g, cap, e, hg, _⟩ := hown2.form (by simp [marks])
  subst e
  have hcap := own_cap hown2
  have hM : Hid (Marked w2 g xs) := by
    intro j hj
    have h := own_cells hown2 j (by simpa [ints] using hj)
    rw [h]
    simp [ints, ← List.map_append]
  have hc1 : xs.length + 4 ≤ cap := by have := hcap.1; simp [marks] at this; omega
  have hc2 : cap ≤ 9223372036854775807 := by have := hcap.2; simp [maxLen] at this; omega
  clear hcap hown2
  go_wp2_with fail
  go_ret
  exact ⟨g, cap, rfl, hc1, hc2, hM.out, hb2⟩

theorem kept_any (xs : List Int) (g c : Nat) (B : Option Addr) (cb : Nat) (w : World) (hM : Marked w g xs) (hy : RI w B xs) (hl : xs.length ≤ 17592186043904) (hc : xs.length + 4 ≤ c) (hc2 : c ≤ 9223372036854775807) :
    Calls Tryd.prog 27 #[.slice (some ⟨g, 0, none⟩) xs.length c, .slice B xs.length cb] w fun e w' => e = .returned (.bool true) ∧ Below w.heap.size w w' := by
  have hr := hM.ri (by omega)
  have hd1 : decide (c < xs.length + 4) = false := decide_eq_false (by omega)
  have hd2 : decide ((c : Int) < (xs.length : Int) + 4) = false := decide_eq_false (by omega)
  go_enter Tryd.func27, Tryd.ntmps27
  go_wp2_with fail
  have hj := sameInts_any xs xs (some ⟨g, 0, none⟩) B c cb w hr hy
  rw [decide_eq_true rfl] at hj
  refine hj.mono ?_
  rintro e w1 ⟨rfl, hb⟩
  clear hj hr
  have HM := Lib.hid (hM.later hb)
  go_wp2_with fail
  go_loop [6] (fun i => ∃ k : Nat, k ≤ 4 ∧ i = .int .i64 k) (fun i => 4 - (intOf i).toNat)
  case atStart => exact ⟨0, Nat.zero_le _, rfl⟩
  case round =>
    obtain ⟨k, hk, rfl⟩ := hrel
    by_cases hlt : k < 4
    · have hcell := HM.out (xs.length + k) (by simp [marks]; omega)
      have hx : (xs ++ marks)[xs.length + k]'(by simp [marks]; omega) = -91 - (k : Int) := by
        rw [List.getElem_append_right (by omega)]
        simp only [Nat.add_sub_cancel_left, marks]
        match k, hlt with
        | 0, _ => rfl
        | 1, _ => rfl
        | 2, _ => rfl
        | 3, _ => rfl
      rw [hx] at hcell
      clear hx
      go_wp2_with fail
      go_round
      case rel => exact ⟨k + 1, by omega, by go_num⟩
      case measure => simp [intOf]; omega
    · go_wp2_with fail
      go_ret
      exact ⟨rfl, hb⟩
end Go.Proofs.YtpjphmpebegidaaDoor
