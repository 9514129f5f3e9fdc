/-
  All words of a pool.
-/
import Derived.Test.YtpjphmpebegidaaDoorPool20
namespace Go.Proofs.YtpjphmpebegidaaDoor
open Go.RowKit Go.Stk
attribute [local go_sem ↓] Go.wp_at_zero Go.wp_at_succ

/-- A list of the call's own. -/
def Listed (w : World) (xs : List Int) (e : Ending) (w' : World) : Prop := ∃ g c, e = .returned (.slice (some ⟨g, 0, none⟩) xs.length c) ∧ xs.length ≤ c ∧ c ≤ maxLen ∧ RI w' (some ⟨g, 0, none⟩) xs ∧ w.heap.size ≤ g ∧ Below w.heap.size w w'
theorem row_listed {w w' : World} {v : Value} {n : Nat} {xs : List Int} (hr : Row w' 3 1 v n (ints xs)) (h0 : 0 < n) (hb : Below w.heap.size w w') (ho : ∀ g ∈ blk v, w.heap.size ≤ g) : Listed w xs (.returned v) w' := by
  have hn : xs.length = n := by have := hr.1; simpa using this
  subst hn
  obtain ⟨g, cap, rfl, hbk, hc, hm, hg, hcell, _⟩ := hr.mid h0
  refine ⟨g, cap, rfl, hc, hm, ⟨by simp; omega, fun hl => ⟨g, 0, rfl, fun j hj => ?_⟩⟩, ho g (by rw [hbk]; simp), hb⟩
  rw [Nat.zero_add]
  exact hcell j _ (List.getElem?_eq_getElem hj)
/-- Where a round stands. -/
structure DuR (w wr : World) (L : PLay) (S : PS) (v : Value) (n : Nat) (xs : List Int) : Prop where
  rep : PRep wr L S
  row : Row wr 3 1 v n (ints xs)
  own : ∀ g ∈ blk v, w.heap.size ≤ g
  bl : Below w.heap.size w wr
  low : ∀ g, L.own g → g < w.heap.size
theorem ints_take (xs : List Int) (n : Nat) : ints (xs.take n) = (ints xs).take n := by simp [ints, List.map_take]
theorem Rd.mid {w : World} {b : Nat} {T : TypeId} {cs : List Value} (h : w.heap[b]? = some (.cells cs.toArray T (0, 0))) (off n : Nat) (hn : off + n ≤ cs.length) (hm : n ≤ maxLen) : Rd w (some ⟨b, off, none⟩) ((cs.drop off).take n) := by
  refine ⟨by simp; omega, fun hl => ⟨b, off, rfl, fun j hj => ?_⟩⟩
  simp at hj
  rw [blk_cell h]
  simp [show off + j < cs.length by omega]
set_option maxRecDepth 100000 in
set_option maxHeartbeats 2000000 in
theorem dump_any {w : World} {L : PLay} {S : PS} (h : PRep w L S) (h0 : 0 < S.np) : Calls Tryd.prog 24 #[.pointer (some ⟨L.pb, 0, none⟩)] w (Listed w S.words) := by
  have hnp : (S.np : Int) ≤ 256 := by have := h.hnp; omega
  have np0 : (0 : Int) ≤ (S.np : Int) := by omega
  have hmk := make_room (P := Tryd.prog) 37 3 (.int .i64 0) 8 Tryd.underlying37 infoInt3 rfl (by decide) (S.np * 16) (by omega)
  rw [show ((S.np * 16 : Nat) : Int) = (S.np : Int) * 16 by omega] at hmk
  have f0 : w.cell? ⟨L.pb, 0, none⟩ = some (.slice (some ⟨L.gb, 0, none⟩) S.np S.np) := by rw [blk_cell h.pool]; rfl
  have hb : Below w.heap.size w (w.alloc (.cells (madeCells #[.int .i64 0] (S.np * 16)) 3)) := below_alloc (Below.refl _ _) _
  have f1 := cell_later hb f0
  have H0 : Hid (DuR w (w.alloc (.cells (madeCells #[.int .i64 0] (S.np * 16)) 3)) L S (.slice (some ⟨w.heap.size, 0, none⟩) 0 (S.np * 16)) 0 (S.words.take (0 * 16))) := by
    refine ⟨h.later hb, ⟨rfl, .inr ⟨w.heap.size, S.np * 16, madeCells #[.int .i64 0] (S.np * 16), rfl, blk_new _ _, by omega, by omega, by simp [maxLen]; omega, by simp [size_madeCells], by simp [ints]⟩⟩, fun g hg => ?_, hb, fun g hg => h.lt g hg⟩
    obtain ⟨c, hc⟩ : ∃ c, S.np * 16 = c + 1 := ⟨S.np * 16 - 1, by omega⟩
    rw [hc] at hg
    simp [blk] at hg
    omega
  have HW := Lib.hid h.lw
  clear h hb
  go_enter Tryd.func24, Tryd.ntmps24
  go_wp2_with fail
  clear hmk f0 f1
  generalize w.alloc (.cells (madeCells #[.int .i64 0] (S.np * 16)) 3) = w1 at H0 ⊢
  go_loopw [3, 17] (fun ov iv wr => ∃ (k : Nat) (v : Value), k ≤ S.np ∧ iv = .int .i64 k ∧ ov = v ∧ Hid (DuR w wr L S v (k * 16) (S.words.take (k * 16)))) (fun _ iv _ => S.np - (intOf iv).toNat)
  case atStart => exact ⟨0, _, Nat.zero_le _, rfl, rfl, H0⟩
  case round =>
    obtain ⟨k, v, hk, rfl, hv, hP⟩ := hrel
    obtain rfl : v = _ := hv.symm
    by_cases hlt : k < S.np
    · have f0 : wr.cell? ⟨L.pb, 0, none⟩ = some (.slice (some ⟨L.gb, 0, none⟩) S.np S.np) := by rw [blk_cell hP.out.rep.pool]; rfl
      have RD := Lib.hid (Rd.mid (n := 16) hP.out.rep.pages (k * 16) (by rw [ints_length]; have := HW.out; omega) (by simp [maxLen]))
      have LN := Lib.hid (show (((ints S.words).drop (k * 16)).take 16).length = 16 * 1 by rw [List.length_take, List.length_drop, ints_length]; have := HW.out; omega)
      have ON := Lib.hid (show ∀ u ∈ ((ints S.words).drop (k * 16)).take 16, u.oneCell' = true from fun u hu => by
        obtain ⟨n, _, rfl⟩ := List.mem_map.1 (List.mem_of_mem_drop (List.mem_of_mem_take hu))
        rfl)
      have j1 : (k : Int) < (S.np : Int) := by omega
      go_wp2_with (at_builtin; refine append_row (by rfl) _ _ _ 3 (.int .i64 0) 1 8 (by rfl) Tryd.underlying37 infoInt3 (by rfl) (by omega) v (k * 16) (ints (S.words.take (k * 16))) (by rfl) hP.out.row (some ⟨L.gb, k * 16, none⟩) 16 16 (((ints S.words).drop (k * 16)).take 16) (by rfl) LN.out (by intro h; cases h) (by omega) RD.out ON.out (by simp only [maxLen]; omega) (by omega) ?_; intro v1 w3 hrow3 hkk hb3)
      have ZL : Hid (DuR w w3 L S v1 ((k + 1) * 16) (S.words.take ((k + 1) * 16))) := by
        have hw := hP.out
        refine ⟨hw.rep.kept hkk fun g hg hx => ?_, ?_, fun g hg => ?_, hw.bl.trans (hkk.below hw.own hw.bl.size), hw.low⟩
        · have h1 := hw.own g hx
          have h2 := hw.low g hg
          omega
        · rw [show (k + 1) * 16 = k * 16 + 16 by omega, List.take_add, ints_append, ints_take, ints_take]
          simpa [ints, List.map_drop, List.map_take] using hrow3
        · rcases hb3 g hg with h1 | h1
          · exact hw.own g h1
          · exact Nat.le_trans hw.bl.size h1
      clear hP hrow3 hkk hb3 RD LN ON f0
      go_wp2_with fail
      go_roundw
      case rel => exact ⟨k + 1, v1, by omega, by go_num, rfl, ZL⟩
      case measure => simp [intOf]; omega
    · have HF : Hid (Listed w S.words (.returned v) wr) := by
        have hw := hP.out.row
        rw [List.take_of_length_le (by have := HW.out; omega)] at hw
        exact row_listed hw (by omega) hP.out.bl hP.out.own
      go_wp2_with fail
      go_ret
      exact HF.out
end Go.Proofs.YtpjphmpebegidaaDoor
