/-
  How long a code is.
-/
import Derived.Test.YtbpbimkadiobfaaDoorCode5
namespace Go.Proofs.YtbpbimkadiobfaaDoor
open Go.RowKit Go.Stk

def fnsLen (l : List Fn) : Nat := (l.map fun f => 1 + f.locals.length).sum
def coLen (c : Co) : Nat := c.places.length + c.chans.length + c.body.length + fnsLen c.funcs
theorem fnsLen_next {l : List Fn} {k : Nat} {f : Fn} (h : l[k]? = some f) : fnsLen (l.take (k + 1)) = fnsLen (l.take k) + (1 + f.locals.length) := by
  unfold fnsLen
  rw [List.take_add_one, h]
  simp
theorem fnsLen_le (l : List Fn) (k : Nat) : fnsLen (l.take k) ≤ fnsLen l := by
  have h : l.map (fun f => 1 + f.locals.length) = (l.take k).map (fun f => 1 + f.locals.length) ++ (l.drop k).map (fun f => 1 + f.locals.length) := by rw [← List.map_append, List.take_append_drop]
  unfold fnsLen
  rw [h, List.sum_append]; omega
structure LoR (w wr : World) (c : Co) : Prop where
  bl : Below w.heap.size w wr
  rep : c.Rep wr
theorem LoR.later {w wr w' : World} {c : Co} (h : LoR w wr c) (hb : Below wr.heap.size wr w') : LoR w w' c := ⟨below_next h.bl hb, h.rep.later hb⟩
set_option maxRecDepth 100000 in
set_option maxHeartbeats 4000000 in
theorem long_any (c : Co) (w : World) (h : c.Rep w) : Calls Tryd.prog 15 #[c.agg] w (Ret w (.bool (decide (20000 < coLen c)))) := by
  obtain ⟨S, hS⟩ : ∃ S, decide (20000 < coLen c) = S := ⟨_, rfl⟩
  rw [hS]
  unfold coLen at hS
  have A1 := h.lp
  have A2 := h.lc
  have A3 := h.lf
  have A4 := h.lb
  have HB := Lib.hid (below_alloc (Below.refl w.heap.size w) (.cells #[.slice c.pA c.places.length c.pc, .int .i64 c.mux, .int .i64 c.ato, .slice c.cA c.chans.length c.cc, .slice c.fA c.funcs.length c.fc, .int .i64 c.start, .slice c.bA c.body.length c.bc] 31))
  have H0 : Hid (LoR w (w.alloc (.cells #[.slice c.pA c.places.length c.pc, .int .i64 c.mux, .int .i64 c.ato, .slice c.cA c.chans.length c.cc, .slice c.fA c.funcs.length c.fc, .int .i64 c.start, .slice c.bA c.body.length c.bc] 31)) c) := ⟨HB.out, h.later HB.out⟩
  unfold Co.agg
  clear h HB
  obtain ⟨pA, pc, places, mux, ato, cA, cc, chans, fA, fc, funcs, start, bA, bc, body⟩ := c
  dsimp only at hS A1 A2 A3 A4 H0 ⊢
  have HS := Lib.hid hS
  clear hS
  go_enter Tryd.func15, Tryd.ntmps15
  go_wp2_with fail
  generalize (w.alloc (.cells #[.slice pA places.length pc, .int .i64 mux, .int .i64 ato, .slice cA chans.length cc, .slice fA funcs.length fc, .int .i64 start, .slice bA body.length bc] 31)) = W0 at H0 ⊢
  go_loopw [3, 20] (fun nv iv wr => ∃ k t : Nat, k ≤ funcs.length ∧ iv = .int .i64 k ∧ nv = .int .i64 t ∧ t ≤ 422212465153696 + 20000 ∧ (0 < k → t ≤ 20000) ∧ Hid (t = places.length + chans.length + body.length + fnsLen (funcs.take k)) ∧ Hid (LoR w wr ⟨pA, pc, places, mux, ato, cA, cc, chans, fA, fc, funcs, start, bA, bc, body⟩)) (fun _ iv _ => funcs.length - (intOf iv).toNat)
  case atStart => exact ⟨0, places.length + chans.length + body.length, Nat.zero_le _, rfl, congrArg (Value.int .i64) (by omega), by omega, by omega, by show _ = _; simp [fnsLen], H0⟩
  case round =>
    clear H0
    obtain ⟨k, t, hk, rfl, rfl, ht, ht2, hT, hP⟩ := hrel
    by_cases hlt : k < funcs.length
    · obtain ⟨x, hx⟩ : ∃ x, funcs[k]? = some x := ⟨_, List.getElem?_eq_getElem hlt⟩
      obtain ⟨rx, nx⟩ := hP.out.rep.lo x (List.mem_of_getElem? hx)
      obtain ⟨b1, o1, ea, c1, c2, c3⟩ := fn_at hP.out.rep.fn k x hx
      dsimp only at ea
      subst ea
      have HN : Hid (t + (1 + x.locals.length) = places.length + chans.length + body.length + fnsLen (funcs.take (k + 1))) := by show _ = _; rw [fnsLen_next hx, hT.out]; omega
      have HLE := Lib.hid (fnsLen_le funcs (k + 1))
      have HB := Lib.hid (hP.out.later (below_alloc (Below.refl wr.heap.size wr) (.cells #[.int .i64 x.st, .int .i64 x.pa, .slice x.lA x.locals.length x.lc] 26)))
      clear rx hx hT ht2
      by_cases hbig : 20000 < t + (1 + x.locals.length)
      · have d1 : decide (20000 < (t : Int) + (1 + (x.locals.length : Int))) = true := decide_eq_true (by omega)
        have E : Hid (S = true) := by
          show _ = _
          rw [← HS.out]
          exact decide_eq_true (by have := HN.out; have := HLE.out; omega)
        clear hbig
        go_wp2_with fail
        go_ret
        exact ⟨by rw [E.out]; rfl, HB.out.bl⟩
      · have d1 : decide (20000 < (t : Int) + (1 + (x.locals.length : Int))) = false := decide_eq_false (by omega)
        go_wp2_with fail
        go_roundw
        case rel => exact ⟨k + 1, t + (1 + x.locals.length), by omega, by go_num, congrArg (Value.int .i64) (by omega), by omega, by omega, HN, HB⟩
        case measure => simp [intOf]; omega
    · have E : Hid (S = decide (20000 < (t : Int))) := by
        show _ = _
        have h1 := hT.out
        rw [List.take_of_length_le (by omega)] at h1
        rw [← HS.out, h1]
        simp only [decide_eq_decide]
        omega
      obtain ⟨z, hz⟩ : ∃ z, decide (20000 < (t : Int)) = z := ⟨_, rfl⟩
      rw [hz] at E
      clear hT ht2
      cases z
      · go_wp2_with fail
        go_ret
        exact ⟨by rw [E.out]; rfl, hP.out.bl⟩
      · go_wp2_with fail
        go_ret
        exact ⟨by rw [E.out]; rfl, hP.out.bl⟩
end Go.Proofs.YtbpbimkadiobfaaDoor
