/-
  Whether there is an array of places.
-/
import Derived.Test.YtbpbimkadiobfaaDoorCode7a
namespace Go.Proofs.YtbpbimkadiobfaaDoor
open Go.RowKit Go.Stk

/-- Is there an array of elements? -/
def arrB (c : Co) (first size : Int) : Bool :=
  wB size 1 64 && (wB first 0 ((c.places.length : Int) - size) && ((c.places.drop first.toNat).take size.toNat).all fun t => decide (t = c.places.getD first.toNat 0))
theorem arrC_any (t p : Int) (places : List Int) (A : Option Addr) (n cap b d : Nat) (w : World) (h0 : w.cell? ⟨b, 0, none⟩ = some (.slice A places.length cap)) (h1 : w.cell? ⟨d, 0, none⟩ = some (.int .i64 (n : Int))) (hr : Rs w A (ints places)) (hp : places[n]? = some p) (hl : places.length ≤ 128) :
    Calls Tryd.prog 62 (#[.int .i64 t] ++ #[.pointer (some ⟨b, 0, none⟩), .pointer (some ⟨d, 0, none⟩)]) w (Ret w (.bool (decide (t = p)))) := by
  have hl' := hl
  obtain ⟨g, off, rfl, hc⟩ := rs_ri hr n p hp
  have hn := (List.getElem?_eq_some_iff.1 hp).1
  have n0 : (0 : Int) ≤ (n : Int) := by omega
  have n1 : (n : Int) < (places.length : Int) := by omega
  clear hr hp
  show Calls Tryd.prog 62 #[.int .i64 t, .pointer (some ⟨b, 0, none⟩), .pointer (some ⟨d, 0, none⟩)] w _
  by_cases ht : t = p
  · have d1 : (t == p) = true := by simpa using ht
    have E : Hid (decide (t = p) = true) := decide_eq_true ht
    clear ht
    go_enter Tryd.func62, Tryd.ntmps62
    go_wp2_with fail
    go_ret
    exact ⟨by rw [E.out]; rfl, Below.refl _ _⟩
  · have d1 : (t == p) = false := by simpa using ht
    have E : Hid (decide (t = p) = false) := decide_eq_false ht
    clear ht
    go_enter Tryd.func62, Tryd.ntmps62
    go_wp2_with fail
    go_ret
    exact ⟨by rw [E.out]; rfl, Below.refl _ _⟩
theorem rs_mid {w : World} {b off : Nat} {cs : List Value} (h : Rs w (some ⟨b, off, none⟩) cs) (k n : Nat) : Rs w (some ⟨b, off + k, none⟩) ((cs.drop k).take n) := fun hl => by
  simp at hl
  obtain ⟨b', off', e, hc⟩ := h (by omega)
  simp at e
  obtain ⟨rfl, rfl⟩ := e
  refine ⟨b, off + k, rfl, fun j hj => ?_⟩
  simp at hj
  have := hc (k + j) (by omega)
  rw [show off + k + j = off + (k + j) by omega, this]
  simp
set_option maxRecDepth 100000 in
set_option maxHeartbeats 4000000 in
theorem array_any (c : Co) (first size : Int) (w : World) (h : c.Rep w) (hb : Bnd c) : Calls Tryd.prog 54 #[c.agg, .int .i64 first, .int .i64 size] w (Ret w (.bool (arrB c first size))) := by
  have b1 := hb.np
  obtain ⟨S, hS⟩ : ∃ S, arrB c first size = S := ⟨_, rfl⟩
  rw [hS]
  unfold arrB at hS
  have hpl := h.pl
  have hpc := h.pcap
  have hbb := Co.box_new w c 31
  have HBX0 := Lib.hid hbb.c0
  clear hbb h hb
  unfold Co.agg
  obtain ⟨pA, pc, places, mux, ato, cA, cc, chans, fA, fc, funcs, start, bA, bc, body⟩ := c
  dsimp only at b1 hS hpl hpc HBX0 ⊢
  have HS := Lib.hid hS
  have HPL := Lib.hid hpl
  clear hS hpl
  have HB : Hid (Below w.heap.size w ((w.alloc (.cells #[.slice pA places.length pc, .int .i64 mux, .int .i64 ato, .slice cA chans.length cc, .slice fA funcs.length fc, .int .i64 start, .slice bA body.length bc] 31)).alloc (.cells #[.int .i64 first] 3))) := below_alloc (below_alloc (Below.refl _ _) _) _
  have HC0 := Lib.hid (cell_later (below_alloc (Below.refl _ _) (.cells #[.int .i64 first] 3)) HBX0.out)
  have HC1 : Hid (((w.alloc (.cells #[.slice pA places.length pc, .int .i64 mux, .int .i64 ato, .slice cA chans.length cc, .slice fA funcs.length fc, .int .i64 start, .slice bA body.length bc] 31)).alloc (.cells #[.int .i64 first] 3)).cell? ⟨w.heap.size + 1, 0, none⟩ = some (.int .i64 first)) := by
    have := blk_new (w.alloc (.cells #[.slice pA places.length pc, .int .i64 mux, .int .i64 ato, .slice cA chans.length cc, .slice fA funcs.length fc, .int .i64 start, .slice bA body.length bc] 31)) (.cells #[.int .i64 first] 3)
    rw [show (w.alloc (.cells #[.slice pA places.length pc, .int .i64 mux, .int .i64 ato, .slice cA chans.length cc, .slice fA funcs.length fc, .int .i64 start, .slice bA body.length bc] 31)).heap.size = w.heap.size + 1 by simp] at this
    show _ = _
    rw [blk_cell this]; rfl
  clear HBX0
  obtain ⟨z, hz⟩ : ∃ z, wB size 1 64 = z := ⟨_, rfl⟩
  have HZ := Lib.hid hz
  cases z
  · have E : Hid (S = false) := by show _ = _; rw [← HS.out, HZ.out]; rfl
    clear hz
    go_enter Tryd.func54, Tryd.ntmps54
    go_wp2_with fail
    refine (within_any _ _ _ _).mono ?_
    rintro e w' ⟨rfl, rfl⟩
    rw [HZ.out]
    go_wp2_with fail
    go_ret
    exact ⟨by rw [E.out]; rfl, HB.out⟩
  · obtain ⟨s1, s64⟩ := (wB_iff _ _ _).1 hz
    clear hz
    obtain ⟨y, hy⟩ : ∃ y, wB first 0 ((places.length : Int) - size) = y := ⟨_, rfl⟩
    have HY := Lib.hid hy
    cases y
    · have E : Hid (S = false) := by show _ = _; rw [← HS.out, HZ.out, HY.out]; rfl
      clear hy
      go_enter Tryd.func54, Tryd.ntmps54
      go_wp2_with fail
      refine (within_any _ _ _ _).mono ?_
      rintro e w' ⟨rfl, rfl⟩
      rw [HZ.out]
      go_wp2_with fail
      refine (within_any _ _ _ _).mono ?_
      rintro e w' ⟨rfl, rfl⟩
      rw [HY.out]
      go_wp2_with fail
      go_ret
      exact ⟨by rw [E.out]; rfl, HB.out⟩
    · obtain ⟨f0, f1⟩ := (wB_iff _ _ _).1 hy
      clear hy
      obtain ⟨n, rfl⟩ : ∃ n : Nat, first = (n : Int) := ⟨first.toNat, by omega⟩
      obtain ⟨m, rfl⟩ : ∃ m : Nat, size = (m : Int) := ⟨size.toNat, by omega⟩
      obtain ⟨p, hp⟩ : ∃ p, places[n]? = some p := ⟨_, List.getElem?_eq_getElem (by omega)⟩
      have HE : Hid (S = ((places.drop n).take m).all fun t => decide (t = p)) := by
        show _ = _
        rw [← HS.out, HZ.out, HY.out]
        simp [hp]
      obtain ⟨b, off, e, _⟩ := HPL.out (by simp; omega)
      subst e
      have RM := Lib.hid (rs_mid HPL.out n m)
      have LM : Hid (((places.drop n).take m).length = m) := by show _ = _; rw [List.length_take, List.length_drop]; omega
      have e62 : ∀ (xs : Array Value) (W : World), (callFunc 62 xs).run Tryd.prog W = .ok (.enter 62 xs) W := fun xs W => by simp [go_sem]
      have HK := Lib.hid (all_any ((places.drop n).take m) 62 #[.pointer (some ⟨w.heap.size, 0, none⟩), .pointer (some ⟨w.heap.size + 1, 0, none⟩)] (fun t => decide (t = p)) (some ⟨b, off + n, none⟩) (pc - n) _ (by rw [LM.out]; omega) (by
          have := RM.out.later HB.out
          rw [show ints ((places.drop n).take m) = ((ints places).drop n).take m by simp [ints, List.map_drop, List.map_take]]
          exact this) e62 fun t W hbl => arrC_any t p places _ n pc w.heap.size (w.heap.size + 1) W (cell_later hbl HC0.out) (cell_later hbl HC1.out) ((HPL.out.later HB.out).later hbl) hp b1)
      rw [LM.out, ← HE.out] at HK
      clear hp e62
      have n0 : (0 : Int) ≤ (n : Int) := by omega
      have n1 : (n : Int) ≤ (n : Int) + (m : Int) := by omega
      have n2 : (n : Int) + (m : Int) ≤ (pc : Int) := by omega
      have n3 : ((n : Int) + (m : Int)).toNat = n + m := by omega
      have n4 : n + m - n = m := by omega
      have n5 : n ≠ pc := by omega
      have n6 : (pc = n) = False := by simp; omega
      go_enter Tryd.func54, Tryd.ntmps54
      go_wp2_with fail
      refine (within_any _ _ _ _).mono ?_
      rintro e w' ⟨rfl, rfl⟩
      rw [HZ.out]
      go_wp2_with fail
      refine (within_any _ _ _ _).mono ?_
      rintro e w' ⟨rfl, rfl⟩
      rw [HY.out]
      go_wp2_with fail
      refine HK.out.mono ?_
      rintro e w' ⟨rfl, hb3⟩
      have HB3 := Lib.hid (below_next HB.out hb3)
      clear hb3
      go_wp2_with fail
      go_ret
      exact ⟨rfl, HB3.out⟩
end Go.Proofs.YtbpbimkadiobfaaDoor
