/-
  The document's bytes of a number.
-/
import Derived.Test.YtbpbimkadiobfaaDoorPut3
import Derived.Test.YtbpbimkadiobfaaDoorArith
import Derived.Test.YtbpbimkadiobfaaDoorParse4
import Derived.Test.YtbpbimkadiobfaaDoorRForm
import Derived.Test.YtbpbimkadiobfaaDoorCuts
import Derived.Deep.RegionHeld
namespace Go.Proofs.YtbpbimkadiobfaaDoor
open Go.RowKit Go.Stk
attribute [local go_sem ↓] Go.wp_at_zero Go.wp_at_succ

/-- Bytes, just laid. -/
def NewBs (w : World) (n : Nat) (xs : List Int) (e : Ending) (w' : World) : Prop := ∃ g, e = .returned (.slice (some ⟨g, 0, none⟩) n n) ∧ w.heap.size ≤ g ∧ w'.heap[g]? = some (.cells (bys xs).toArray 5 (0, 0)) ∧ Below w.heap.size w w'
theorem make_bytes (m : Nat) (h : m ≤ 8) (W : World) : (Instr.makeSlice 47 (.int .i64 (m : Int)) (.int .i64 (m : Int))).run Tryd.prog W = .ok (.slice (some ⟨W.heap.size, 0, none⟩) m m) (W.alloc (.cells (bys (List.replicate m 0)).toArray 5)) := by
  rw [make_one 47 5 (.int .u8 0) 1 Tryd.underlying47 infoByte (by rfl) (by omega) m (by omega) W, madeCells_rep]
  congr 3
  apply Array.ext'
  simp [bys]
theorem bys_set {k : Nat} {x : Int} {l : List Int} : (bys (List.replicate (k + 1) 0 ++ l)).toArray.setIfInBounds k (.int .u8 x) = (bys (List.replicate k 0 ++ x :: l)).toArray := by
  apply Array.ext'
  simp only [Array.toList_setIfInBounds, bys, List.replicate_succ', List.append_assoc, List.map_append, List.map_replicate, List.map_cons, List.cons_append, List.nil_append]
  rw [List.set_append_right (h := by simp)]
  simp
theorem be_top (u : Int) (n k : Nat) (h : k < n) : be u (n - k) = (u / 256 ^ (n - (k + 1))) % 256 :: be u (n - (k + 1)) := by
  rw [show n - k = (n - (k + 1)) + 1 by omega]; rfl
theorem div_next (u : Int) (n k : Nat) (h : k < n) : u / 256 ^ (n - (k + 1)) / 256 = u / 256 ^ (n - k) := by
  rw [show n - k = (n - (k + 1)) + 1 by omega, Int.ediv_ediv_of_nonneg (Int.le_of_lt (Int.pow_pos (by decide))), Int.pow_succ]
set_option maxRecDepth 100000 in
theorem big_any (n : Nat) (hn : n ≤ 8) (u : Int) (w : World) : Calls Tryd.prog 48 #[.int .u64 u, .int .i64 (n : Int)] w (NewBs w n (be u n)) := by
  have hmk := make_bytes n hn
  have n0 : (0 : Int) ≤ (n : Int) := by omega
  go_enter Tryd.func48, Tryd.ntmps48
  go_wp2_with fail
  clear hmk
  go_loopw [0, 6] (fun uv iv wr => ∃ (m : Nat) (j : Int), m ≤ n ∧ j = (m : Int) - 1 ∧ iv = .int .i64 j ∧ uv = .int .u64 (u / 256 ^ (n - m)) ∧ Hid (wr.heap[w.heap.size]? = some (.cells (bys (List.replicate m 0 ++ be u (n - m))).toArray 5 (0, 0)) ∧ Below w.heap.size w wr)) (fun _ iv _ => (intOf iv + 1).toNat)
  case atStart => exact ⟨n, _, Nat.le_refl _, rfl, by go_num, by simp, by rw [blk_new]; simp [be], below_alloc (Below.refl _ _) _⟩
  case round =>
    obtain ⟨m, j, hm, hj, rfl, rfl, hP⟩ := hrel
    by_cases hlt : 0 ≤ j
    · obtain ⟨k, rfl⟩ : ∃ k : Nat, j = k := ⟨j.toNat, by omega⟩
      obtain rfl : m = k + 1 := by omega
      clear hj
      obtain ⟨t, ht⟩ : ∃ t, u / 256 ^ (n - (k + 1)) = t := ⟨_, rfl⟩
      have HD : Hid (t / 256 = u / 256 ^ (n - k)) := by show _ = _; rw [← ht]; exact div_next u n k (by omega)
      have HE : Hid (be u (n - k) = t % 256 :: be u (n - (k + 1))) := by show _ = _; rw [← ht]; exact be_top u n k (by omega)
      rw [ht]
      clear ht
      have hfz := blk_free hP.out.1 k
      have hcell : (wr.cell? ⟨w.heap.size, k, none⟩).isSome = true := by rw [blk_cell hP.out.1]; simp [bys]; omega
      obtain ⟨old, hold⟩ := Option.isSome_iff_exists.1 hcell
      clear hcell
      have hset := Lib.hid (blk_set hP.out.1 k (.int .u8 (t % 256)))
      have HB := Lib.hid hP.out.2
      have hw8 : IntKind.u8.wrap t = t % 256 := rfl
      clear hP
      have k0 : (0 : Int) ≤ (k : Int) := by omega
      have k1 : (k : Int) < (n : Int) := by omega
      go_wp2_with fail
      go_roundw
      case rel => exact ⟨k, _, by omega, rfl, by go_num, by rw [← HD.out], by rw [hset.out, bys_set, ← HE.out], HB.out.setCell (Nat.le_refl _) _⟩
      case measure => first | (simp [intOf]; done) | (simp [intOf]; omega)
    · obtain rfl : m = 0 := by omega
      have hj0 : j < 0 := by omega
      clear hj
      go_wp2_with fail
      go_ret
      refine ⟨w.heap.size, rfl, Nat.le_refl _, ?_, hP.out.2⟩
      simpa using hP.out.1
end Go.Proofs.YtbpbimkadiobfaaDoor

/-
  The document's bytes of a code: the same.
-/
namespace Go.Proofs.YtbpbimkadiobfaaDoor
open Go.RowKit Go.Stk
attribute [local go_sem ↓] Go.wp_at_zero Go.wp_at_succ

theorem ones_by (l : List Int) : ∀ u ∈ bys l, u.oneCell' = true := fun u hu => by
  obtain ⟨x, _, rfl⟩ := List.mem_map.1 hu
  rfl
theorem cellOf {w : World} {b : Nat} {c : Array Value} {T : TypeId} (h : w.heap[b]? = some (.cells c T (0, 0))) {i : Nat} {v : Value} (hv : c[i]? = some v) : w.cell? ⟨b, i, none⟩ = some v := (blk_cell h i).trans hv
/-- The bytes so far, the call's own; a block beside them. -/
structure ByR (w wr : World) (v : Value) (xs : List Int) (g : Nat) (o : Obj) : Prop where
  bl : Below w.heap.size w wr
  row : Row wr 5 1 v xs.length (bys xs)
  own : ∀ y ∈ blk v, w.heap.size ≤ y
  el : wr.heap[g]? = some o
  eo : g ∉ blk v
theorem ByR.push {w wr W2 w3 : World} {v v1 : Value} {xs zs : List Int} {g m : Nat} {o : Obj} (h : ByR w wr v xs g o) (hb2 : Below wr.heap.size wr W2) (hk : Kept (blk v) W2 w3) (hrow : Row w3 5 1 v1 m (bys zs)) (hm : m = zs.length) (hb3 : ∀ y ∈ blk v1, y ∈ blk v ∨ W2.heap.size ≤ y) : ByR w w3 v1 zs g o := by
  subst hm
  have hk2 : Kept (blk v) wr w3 := (Kept.ofBelow hb2 (blk v)).trans hk fun a ha => .inl ha
  have s2 := hb2.size
  have s1 := h.bl.size
  refine ⟨h.bl.trans (hk2.below (fun i hi => h.own i hi) s1), hrow, fun y hy => ?_, hk2.heap h.el h.eo, fun hy => ?_⟩
  · rcases hb3 y hy with h1 | h1
    · exact h.own y h1
    · omega
  · rcases hb3 g hy with h1 | h1
    · exact h.eo h1
    · have := blk_lt h.el; omega
theorem ByR.elem {w wr : World} {v : Value} {xs : List Int} {g : Nat} {o : Obj} (h : ByR w wr v xs g o) (o' : Obj) : ByR w (wr.alloc o') v xs wr.heap.size o' := by
  have hb := below_alloc (Below.refl wr.heap.size wr) o'
  exact ⟨below_next h.bl hb, h.row.kept (Kept.ofBelow hb []) (by simp), h.own, blk_new wr o', fun hy => by have := h.row.lt _ hy; omega⟩
theorem ByR.start (w : World) (o o' : Obj) : ByR w ((w.alloc o).alloc o') (.slice (some ⟨w.heap.size, 0, none⟩) 0 0) [] (w.heap.size + 1) o' :=
  ⟨below_alloc (below_alloc (Below.refl _ _) _) _, Row.empty _ _ _ _, by simp [blk], blk_new2 w o o', by simp [blk]⟩
def ByE (w : World) (xs : List Int) (e : Ending) (w' : World) : Prop := ∃ v, e = .returned v ∧ Row w' 5 1 v xs.length (bys xs) ∧ Below w.heap.size w w'
set_option maxRecDepth 100000 in
set_option maxHeartbeats 8000000 in
theorem refBytes_any (c : Co) (w : World) (h : c.Rep w) (hk : checkB c = true) : Calls Tryd.prog 23 #[c.agg] w (ByE w (encC c)) := by
  have hlp := h.lp
  have hlc := h.lc
  have hlf := h.lf
  have hlb := h.lb
  have HB0 := Lib.hid (below_alloc (Below.refl w.heap.size w) (.cells #[.slice c.pA c.places.length c.pc, .int .i64 c.mux, .int .i64 c.ato, .slice c.cA c.chans.length c.cc, .slice c.fA c.funcs.length c.fc, .int .i64 c.start, .slice c.bA c.body.length c.bc] 31))
  have HC := Lib.hid (h.later HB0.out)
  have HBX := Lib.hid (Co.box_new w c 31)
  have HKK := Lib.hid hk
  obtain ⟨hs1, _, _, _, _⟩ := check_small hk
  have hs1' : (c.places.length : Int) ≤ 128 := by omega
  have HD : Hid (∀ f ∈ c.funcs, f.locals.length ≤ 32) := (check_small hk).2.2.2.2
  clear h hk
  unfold Co.agg
  obtain ⟨pA, hpA⟩ : ∃ A, c.pA = A := ⟨_, rfl⟩
  obtain ⟨cA, hcA⟩ : ∃ A, c.cA = A := ⟨_, rfl⟩
  obtain ⟨fA, hfA⟩ : ∃ A, c.fA = A := ⟨_, rfl⟩
  obtain ⟨bA, hbA⟩ : ∃ A, c.bA = A := ⟨_, rfl⟩
  have HpA := Lib.hid hpA
  have HcA := Lib.hid hcA
  have HfA := Lib.hid hfA
  have HbA := Lib.hid hbA
  rw [hpA, hcA, hfA, hbA] at HB0 HC HBX ⊢
  clear hpA hcA hfA hbA
  generalize hw1 : w.alloc (.cells #[.slice pA c.places.length c.pc, .int .i64 c.mux, .int .i64 c.ato, .slice cA c.chans.length c.cc, .slice fA c.funcs.length c.fc, .int .i64 c.start, .slice bA c.body.length c.bc] 31) = w1 at HB0 HC HBX
  obtain ⟨q0, q1, q2, q3, q4, q5, q6⟩ := HBX.out.later (below_alloc (Below.refl _ _) (.cells #[] 5))
  rw [HpA.out] at q0
  rw [HcA.out] at q3
  rw [HfA.out] at q4
  rw [HbA.out] at q6
  go_enter Tryd.func23, Tryd.ntmps23
  go_wp2_with fail
  clear hw1 q0 q1 q2 q3 q4 q5 q6
  have HS := Lib.hid (ByR.start w1 (.cells #[] 5) (.cells #[.int .i64 (c.places.length : Int), .int .i64 c.mux, .int .i64 c.ato, .int .i64 (c.chans.length : Int), .int .i64 (c.funcs.length : Int), .int .i64 (c.body.length : Int), .int .i64 c.start] 3))
  generalize (w1.alloc (.cells #[] 5)).alloc (.cells #[.int .i64 (c.places.length : Int), .int .i64 c.mux, .int .i64 c.ato, .int .i64 (c.chans.length : Int), .int .i64 (c.funcs.length : Int), .int .i64 (c.body.length : Int), .int .i64 c.start] 3) = W0 at HS ⊢
  obtain ⟨hd, hhd⟩ : ∃ hd : List Int, hd = [(c.places.length : Int), c.mux, c.ato, c.chans.length, c.funcs.length, c.body.length, c.start] := ⟨_, rfl⟩
  have HH := Lib.hid hhd
  have hd7 : hd.length = 7 := by rw [hhd]; rfl
  have HS2 : Hid (ByR w1 W0 (.slice (some ⟨w1.heap.size, 0, none⟩) 0 0) [] (w1.heap.size + 1) (.cells (ints hd).toArray 3)) := by rw [HH.out]; exact HS.out
  clear HS hhd
  go_loopw [3, 37] (fun bv iv wr => ∃ (k : Nat) (v : Value), k ≤ 7 ∧ iv = .int .i64 k ∧ v = bv ∧ Hid (ByR w1 wr v (be4 (hd.take k)) (w1.heap.size + 1) (.cells (ints hd).toArray 3))) (fun _ iv _ => 7 - (intOf iv).toNat)
  case atStart => exact ⟨0, _, by omega, rfl, rfl, HS2⟩
  case round =>
    clear HS2
    obtain ⟨k, v0, hk, rfl, rfl, HR0⟩ := hrel
    by_cases hlt : k < 7
    · obtain ⟨x, hx⟩ : ∃ x, hd[k]? = some x := ⟨_, List.getElem?_eq_getElem (by omega)⟩
      have hl0 : (be4 (hd.take k)).length ≤ 28 := by rw [be4_len, List.length_take]; omega
      have HN := Lib.hid (be4_next hx)
      have cx := cellOf HR0.out.el (i := k) (v := .int .i64 x) (by simp [ints, hx])
      obtain ⟨X0, hX0⟩ : ∃ Y, be4 (hd.take k) = Y := ⟨_, rfl⟩
      rw [hX0] at HR0 HN hl0
      clear hX0 hx
      go_wp2_with fail
      clear cx
      refine Calls.mono (big_any 4 (by omega) (IntKind.u64.wrap x) _) ?_
      rintro e wb0 ⟨g0, rfl, hg0, hb0, hw0⟩
      obtain ⟨A0, c0, rfl, _, _, _, _⟩ := HR0.out.row.form
      have HG0 := Lib.hid hb0
      have HW0 := Lib.hid hw0
      clear hg0 hb0 hw0
      go_wp2_with ((at_builtin; refine append_row (by rfl) _ _ _ 5 _ 1 1 (by rfl) Tryd.underlying47 infoByte (by rfl) (by omega) (.slice A0 X0.length c0) X0.length (bys X0) (by rfl) (HR0.out.row.kept (Kept.ofBelow HW0.out []) (by simp)) (some ⟨g0, 0, none⟩) 4 4 (bys (be (IntKind.u64.wrap x) 4)) (by rfl) (by rw [bys_len, be_len]) (by simp) (Nat.le_refl _) (rd_blkW HG0.out (by rw [bys_len, be_len]; simp only [maxLen]; omega)) (ones_by _) (by simp only [maxLen]; omega) (by omega) ?_; intro v1 wr1 hrow hkk hb3; have HR1 := Lib.hid (HR0.out.push (zs := X0 ++ be (IntKind.u64.wrap x) 4) HW0.out hkk (by rw [bys_app]; exact hrow) (by rw [List.length_append, be_len]) hb3); clear hrow hkk hb3))
      obtain ⟨X1, hX1⟩ : ∃ Y, X0 ++ be (IntKind.u64.wrap x) 4 = Y := ⟨_, rfl⟩
      have lX1 : X1.length ≤ X0.length + 4 := by rw [← hX1, List.length_append, be_len]; exact Nat.le_refl _
      rw [hX1] at HR1
      have EX1 := Lib.hid hX1
      clear hX1 HR0 HG0 HW0
      have HQ : Hid (ByR w1 wr1 v1 (be4 (hd.take (k + 1))) (w1.heap.size + 1) (.cells (ints hd).toArray 3)) := by show ByR _ _ _ _ _ _; rw [HN.out, EX1.out]; exact HR1.out
      clear HR1 HN
      go_roundw
      case rel => exact ⟨k + 1, v1, by omega, by go_num, rfl, HQ.out⟩
      case measure => simp [intOf]; omega
    · have HR1 : Hid (ByR w1 wr v0 (headE c) (w1.heap.size + 1) (.cells (ints hd).toArray 3)) := by
        have := HR0.out
        rw [List.take_of_length_le (by omega), HH.out] at this
        rw [HH.out]
        exact this
      clear HR0 hd7
      have HBXr := Lib.hid (HBX.out.later HR1.out.bl)
      have q0 := HBXr.out.c0
      rw [HpA.out] at q0
      go_wp2_with fail
      clear q0 HBXr
      go_loopw [3, 50] (fun bv iv wr => ∃ (k : Nat) (v : Value), k ≤ c.places.length ∧ iv = .int .i64 k ∧ v = bv ∧ Hid (ByR w1 wr v (headE c ++ be4 (c.places.take k)) (w1.heap.size + 1) (.cells (ints hd).toArray 3))) (fun _ iv _ => c.places.length - (intOf iv).toNat)
      case atStart => exact ⟨0, _, by omega, rfl, rfl, by show ByR _ _ _ _ _ _; rw [List.take_zero, show be4 [] = [] from rfl, List.append_nil]; exact HR1.out⟩
      case round =>
        clear HR1 hlt hk
        obtain ⟨k, v0, hk, rfl, rfl, HR0⟩ := hrel
        by_cases hlt : k < c.places.length
        · obtain ⟨x, hx⟩ : ∃ x, c.places[k]? = some x := ⟨_, List.getElem?_eq_getElem (by omega)⟩
          have hl0 : (headE c ++ be4 (c.places.take k)).length ≤ 1000 := by rw [List.length_append, headE_len, be4_len, List.length_take]; omega
          have HN := Lib.hid (be4_next hx)
          obtain ⟨b1, o1, e1, cx⟩ := rs_ri (HC.out.pl.later HR0.out.bl) k x hx
          rw [HpA.out] at e1
          subst e1
          obtain ⟨X0, hX0⟩ : ∃ Y, headE c ++ be4 (c.places.take k) = Y := ⟨_, rfl⟩
          have HX0 := Lib.hid hX0
          rw [hX0] at HR0 hl0
          clear hX0 hx
          go_wp2_with fail
          clear cx
          refine Calls.mono (big_any 4 (by omega) (IntKind.u64.wrap x) _) ?_
          rintro e wb0 ⟨g0, rfl, hg0, hb0, hw0⟩
          obtain ⟨A0, c0, rfl, _, _, _, _⟩ := HR0.out.row.form
          have HG0 := Lib.hid hb0
          have HW0 := Lib.hid hw0
          clear hg0 hb0 hw0
          go_wp2_with ((at_builtin; refine append_row (by rfl) _ _ _ 5 _ 1 1 (by rfl) Tryd.underlying47 infoByte (by rfl) (by omega) (.slice A0 X0.length c0) X0.length (bys X0) (by rfl) (HR0.out.row.kept (Kept.ofBelow HW0.out []) (by simp)) (some ⟨g0, 0, none⟩) 4 4 (bys (be (IntKind.u64.wrap x) 4)) (by rfl) (by rw [bys_len, be_len]) (by simp) (Nat.le_refl _) (rd_blkW HG0.out (by rw [bys_len, be_len]; simp only [maxLen]; omega)) (ones_by _) (by simp only [maxLen]; omega) (by omega) ?_; intro v1 wr1 hrow hkk hb3; have HR1 := Lib.hid (HR0.out.push (zs := X0 ++ be (IntKind.u64.wrap x) 4) HW0.out hkk (by rw [bys_app]; exact hrow) (by rw [List.length_append, be_len]) hb3); clear hrow hkk hb3))
          obtain ⟨X1, hX1⟩ : ∃ Y, X0 ++ be (IntKind.u64.wrap x) 4 = Y := ⟨_, rfl⟩
          have lX1 : X1.length ≤ X0.length + 4 := by rw [← hX1, List.length_append, be_len]; exact Nat.le_refl _
          rw [hX1] at HR1
          have EX1 := Lib.hid hX1
          clear hX1 HR0 HG0 HW0
          have HQ : Hid (ByR w1 wr1 v1 (headE c ++ be4 (c.places.take (k + 1))) (w1.heap.size + 1) (.cells (ints hd).toArray 3)) := by show ByR _ _ _ _ _ _; rw [HN.out, ← List.append_assoc, HX0.out, EX1.out]; exact HR1.out
          clear HR1 HN
          go_roundw
          case rel => exact ⟨k + 1, v1, by omega, by go_num, rfl, HQ.out⟩
          case measure => simp [intOf]; omega
        · have HR1 : Hid (ByR w1 wr v0 (P1 c) (w1.heap.size + 1) (.cells (ints hd).toArray 3)) := by
            have := HR0.out
            rw [List.take_of_length_le (by omega)] at this
            exact this
          clear HR0
          have HBXr := Lib.hid (HBX.out.later HR1.out.bl)
          have q3 := HBXr.out.c3
          rw [HcA.out] at q3
          go_wp2_with fail
          clear q3 HBXr
          go_loopw [3, 63] (fun bv iv wr => ∃ (k : Nat) (v : Value), k ≤ c.chans.length ∧ iv = .int .i64 k ∧ v = bv ∧ Hid (∃ g o, ByR w1 wr v (P1 c ++ (c.chans.take k).flatMap chE) g o)) (fun _ iv _ => c.chans.length - (intOf iv).toNat)
          case atStart => exact ⟨0, _, by omega, rfl, rfl, _, _, by rw [List.take_zero, List.flatMap_nil, List.append_nil]; exact HR1.out⟩
          case round =>
            clear HR1 hlt hk
            obtain ⟨k, v0, hk, rfl, rfl, HRE⟩ := hrel
            obtain ⟨g00, o00, HR00⟩ := HRE.out
            by_cases hlt : k < c.chans.length
            · obtain ⟨x, hx⟩ : ∃ x, c.chans[k]? = some x := ⟨_, List.getElem?_eq_getElem (by omega)⟩
              have hl0 := len1 HKK.out k
              have HN := Lib.hid (fm_next (f := chE) hx)
              obtain ⟨b1, o1, e1, cx, cy⟩ := ch_at (HC.out.ch.later HR00.bl) k x hx
              rw [HcA.out] at e1
              subst e1
              obtain ⟨X0, hX0⟩ : ∃ Y, P1 c ++ (c.chans.take k).flatMap chE = Y := ⟨_, rfl⟩
              have HX0 := Lib.hid hX0
              rw [hX0] at HR00 hl0
              have HR0 := Lib.hid (HR00.elem (.cells #[.int .i64 x.1, .int .i64 x.2] 70))
              clear hX0 hx HR00 HRE
              go_wp2_with fail
              clear cx cy
              refine Calls.mono (big_any 4 (by omega) (IntKind.u64.wrap x.1) _) ?_
              rintro e wb0 ⟨g0, rfl, hg0, hb0, hw0⟩
              obtain ⟨A0, c0, rfl, _, _, _, _⟩ := HR0.out.row.form
              have HG0 := Lib.hid hb0
              have HW0 := Lib.hid hw0
              clear hg0 hb0 hw0
              go_wp2_with ((at_builtin; refine append_row (by rfl) _ _ _ 5 _ 1 1 (by rfl) Tryd.underlying47 infoByte (by rfl) (by omega) (.slice A0 X0.length c0) X0.length (bys X0) (by rfl) (HR0.out.row.kept (Kept.ofBelow HW0.out []) (by simp)) (some ⟨g0, 0, none⟩) 4 4 (bys (be (IntKind.u64.wrap x.1) 4)) (by rfl) (by rw [bys_len, be_len]) (by simp) (Nat.le_refl _) (rd_blkW HG0.out (by rw [bys_len, be_len]; simp only [maxLen]; omega)) (ones_by _) (by simp only [maxLen]; omega) (by omega) ?_; intro v1 wr1 hrow hkk hb3; have HR1 := Lib.hid (HR0.out.push (zs := X0 ++ be (IntKind.u64.wrap x.1) 4) HW0.out hkk (by rw [bys_app]; exact hrow) (by rw [List.length_append, be_len]) hb3); have e1 := cellOf HR1.out.el (i := 1) (v := .int .i64 x.2) rfl; clear hrow hkk hb3))
              obtain ⟨X1, hX1⟩ : ∃ Y, X0 ++ be (IntKind.u64.wrap x.1) 4 = Y := ⟨_, rfl⟩
              have lX1 : X1.length ≤ X0.length + 4 := by rw [← hX1, List.length_append, be_len]; exact Nat.le_refl _
              rw [hX1] at HR1
              have EX1 := Lib.hid hX1
              clear hX1 HR0 HG0 HW0
              clear e1
              refine Calls.mono (big_any 4 (by omega) (IntKind.u64.wrap x.2) _) ?_
              rintro e wb1 ⟨g1, rfl, hg1, hb1, hw1⟩
              obtain ⟨A1, c1, rfl, _, _, _, _⟩ := HR1.out.row.form
              have HG1 := Lib.hid hb1
              have HW1 := Lib.hid hw1
              clear hg1 hb1 hw1
              go_wp2_with ((at_builtin; refine append_row (by rfl) _ _ _ 5 _ 1 1 (by rfl) Tryd.underlying47 infoByte (by rfl) (by omega) (.slice A1 X1.length c1) X1.length (bys X1) (by rfl) (HR1.out.row.kept (Kept.ofBelow HW1.out []) (by simp)) (some ⟨g1, 0, none⟩) 4 4 (bys (be (IntKind.u64.wrap x.2) 4)) (by rfl) (by rw [bys_len, be_len]) (by simp) (Nat.le_refl _) (rd_blkW HG1.out (by rw [bys_len, be_len]; simp only [maxLen]; omega)) (ones_by _) (by simp only [maxLen]; omega) (by omega) ?_; intro v2 wr2 hrow hkk hb3; have HR2 := Lib.hid (HR1.out.push (zs := X1 ++ be (IntKind.u64.wrap x.2) 4) HW1.out hkk (by rw [bys_app]; exact hrow) (by rw [List.length_append, be_len]) hb3); clear hrow hkk hb3))
              obtain ⟨X2, hX2⟩ : ∃ Y, X1 ++ be (IntKind.u64.wrap x.2) 4 = Y := ⟨_, rfl⟩
              have lX2 : X2.length ≤ X1.length + 4 := by rw [← hX2, List.length_append, be_len]; exact Nat.le_refl _
              rw [hX2] at HR2
              have EX2 := Lib.hid hX2
              clear hX2 HR1 HG1 HW1
              have HQ : Hid (∃ g o, ByR w1 wr2 v2 (P1 c ++ (c.chans.take (k + 1)).flatMap chE) g o) := ⟨_, _, by rw [HN.out, ← List.append_assoc, HX0.out, show chE x = be (IntKind.u64.wrap x.1) 4 ++ be (IntKind.u64.wrap x.2) 4 by simp [chE, be4], ← List.append_assoc, EX1.out, EX2.out]; exact HR2.out⟩
              clear HR2 HN
              go_roundw
              case rel => exact ⟨k + 1, v2, by omega, by go_num, rfl, HQ.out⟩
              case measure => simp [intOf]; omega
            · have HR1 : Hid (∃ g o, ByR w1 wr v0 (P2 c) g o) := by
                have := HRE.out
                rw [List.take_of_length_le (by omega)] at this
                exact this
              have HBXr := Lib.hid (HBX.out.later HR00.bl)
              clear HRE HR00
              have q4 := HBXr.out.c4
              rw [HfA.out] at q4
              go_wp2_with fail
              clear q4 HBXr
              go_loopw [3, 83] (fun bv iv wr => ∃ (k : Nat) (v : Value), k ≤ c.funcs.length ∧ iv = .int .i64 k ∧ v = bv ∧ Hid (∃ g o, ByR w1 wr v (P2 c ++ (c.funcs.take k).flatMap fnE) g o)) (fun _ iv _ => c.funcs.length - (intOf iv).toNat)
              case atStart =>
                obtain ⟨g, o, h1⟩ := HR1.out
                exact ⟨0, _, by omega, rfl, rfl, g, o, by rw [List.take_zero, List.flatMap_nil, List.append_nil]; exact h1⟩
              case round =>
                clear HR1 hlt hk
                obtain ⟨k, v0, hk, rfl, rfl, HRE⟩ := hrel
                obtain ⟨g00, o00, HR00⟩ := HRE.out
                by_cases hlt : k < c.funcs.length
                · obtain ⟨x, hx⟩ : ∃ x, c.funcs[k]? = some x := ⟨_, List.getElem?_eq_getElem (by omega)⟩
                  have hl0 := len2 HKK.out k
                  have HN := Lib.hid (fm_next (f := fnE) hx)
                  have hxl := HD.out x (List.mem_of_getElem? hx)
                  have hxl2 : (x.locals.length : Int) ≤ 32 := by omega
                  have HLO := Lib.hid (HC.out.lo x (List.mem_of_getElem? hx)).1
                  obtain ⟨b1, o1, e1, cx, cy, cz⟩ := fn_at (HC.out.fn.later HR00.bl) k x hx
                  rw [HfA.out] at e1
                  subst e1
                  obtain ⟨xA, hxA⟩ : ∃ A, x.lA = A := ⟨_, rfl⟩
                  rw [hxA] at cz HLO
                  clear hxA
                  obtain ⟨X0, hX0⟩ : ∃ Y, P2 c ++ (c.funcs.take k).flatMap fnE = Y := ⟨_, rfl⟩
                  have HX0 := Lib.hid hX0
                  rw [hX0] at HR00 hl0
                  have HR0 := Lib.hid (HR00.elem (.cells #[.int .i64 x.st, .int .i64 x.pa, .slice xA x.locals.length x.lc] 26))
                  clear hX0 hx HR00 HRE
                  go_wp2_with fail
                  clear cx cy cz
                  refine Calls.mono (big_any 4 (by omega) (IntKind.u64.wrap x.st) _) ?_
                  rintro e wb0 ⟨g0, rfl, hg0, hb0, hw0⟩
                  obtain ⟨A0, c0, rfl, _, _, _, _⟩ := HR0.out.row.form
                  have HG0 := Lib.hid hb0
                  have HW0 := Lib.hid hw0
                  clear hg0 hb0 hw0
                  go_wp2_with ((at_builtin; refine append_row (by rfl) _ _ _ 5 _ 1 1 (by rfl) Tryd.underlying47 infoByte (by rfl) (by omega) (.slice A0 X0.length c0) X0.length (bys X0) (by rfl) (HR0.out.row.kept (Kept.ofBelow HW0.out []) (by simp)) (some ⟨g0, 0, none⟩) 4 4 (bys (be (IntKind.u64.wrap x.st) 4)) (by rfl) (by rw [bys_len, be_len]) (by simp) (Nat.le_refl _) (rd_blkW HG0.out (by rw [bys_len, be_len]; simp only [maxLen]; omega)) (ones_by _) (by simp only [maxLen]; omega) (by omega) ?_; intro v1 wr1 hrow hkk hb3; have HR1 := Lib.hid (HR0.out.push (zs := X0 ++ be (IntKind.u64.wrap x.st) 4) HW0.out hkk (by rw [bys_app]; exact hrow) (by rw [List.length_append, be_len]) hb3); have e1 := cellOf HR1.out.el (i := 1) (v := .int .i64 x.pa) rfl; clear hrow hkk hb3))
                  obtain ⟨X1, hX1⟩ : ∃ Y, X0 ++ be (IntKind.u64.wrap x.st) 4 = Y := ⟨_, rfl⟩
                  have lX1 : X1.length ≤ X0.length + 4 := by rw [← hX1, List.length_append, be_len]; exact Nat.le_refl _
                  rw [hX1] at HR1
                  have EX1 := Lib.hid hX1
                  clear hX1 HR0 HG0 HW0
                  clear e1
                  refine Calls.mono (big_any 4 (by omega) (IntKind.u64.wrap x.pa) _) ?_
                  rintro e wb1 ⟨g1, rfl, hg1, hb1, hw1⟩
                  obtain ⟨A1, c1, rfl, _, _, _, _⟩ := HR1.out.row.form
                  have HG1 := Lib.hid hb1
                  have HW1 := Lib.hid hw1
                  clear hg1 hb1 hw1
                  go_wp2_with ((at_builtin; refine append_row (by rfl) _ _ _ 5 _ 1 1 (by rfl) Tryd.underlying47 infoByte (by rfl) (by omega) (.slice A1 X1.length c1) X1.length (bys X1) (by rfl) (HR1.out.row.kept (Kept.ofBelow HW1.out []) (by simp)) (some ⟨g1, 0, none⟩) 4 4 (bys (be (IntKind.u64.wrap x.pa) 4)) (by rfl) (by rw [bys_len, be_len]) (by simp) (Nat.le_refl _) (rd_blkW HG1.out (by rw [bys_len, be_len]; simp only [maxLen]; omega)) (ones_by _) (by simp only [maxLen]; omega) (by omega) ?_; intro v2 wr2 hrow hkk hb3; have HR2 := Lib.hid (HR1.out.push (zs := X1 ++ be (IntKind.u64.wrap x.pa) 4) HW1.out hkk (by rw [bys_app]; exact hrow) (by rw [List.length_append, be_len]) hb3); have e2 := cellOf HR2.out.el (i := 2) (v := .slice xA x.locals.length x.lc) rfl; clear hrow hkk hb3))
                  obtain ⟨X2, hX2⟩ : ∃ Y, X1 ++ be (IntKind.u64.wrap x.pa) 4 = Y := ⟨_, rfl⟩
                  have lX2 : X2.length ≤ X1.length + 4 := by rw [← hX2, List.length_append, be_len]; exact Nat.le_refl _
                  rw [hX2] at HR2
                  have EX2 := Lib.hid hX2
                  clear hX2 HR1 HG1 HW1
                  clear e2
                  refine Calls.mono (big_any 4 (by omega) ((x.locals.length : Int)) _) ?_
                  rintro e wb2 ⟨g2, rfl, hg2, hb2, hw2⟩
                  obtain ⟨A2, c2, rfl, _, _, _, _⟩ := HR2.out.row.form
                  have HG2 := Lib.hid hb2
                  have HW2 := Lib.hid hw2
                  clear hg2 hb2 hw2
                  go_wp2_with ((at_builtin; refine append_row (by rfl) _ _ _ 5 _ 1 1 (by rfl) Tryd.underlying47 infoByte (by rfl) (by omega) (.slice A2 X2.length c2) X2.length (bys X2) (by rfl) (HR2.out.row.kept (Kept.ofBelow HW2.out []) (by simp)) (some ⟨g2, 0, none⟩) 4 4 (bys (be ((x.locals.length : Int)) 4)) (by rfl) (by rw [bys_len, be_len]) (by simp) (Nat.le_refl _) (rd_blkW HG2.out (by rw [bys_len, be_len]; simp only [maxLen]; omega)) (ones_by _) (by simp only [maxLen]; omega) (by omega) ?_; intro v3 wr3 hrow hkk hb3; have HR3 := Lib.hid (HR2.out.push (zs := X2 ++ be ((x.locals.length : Int)) 4) HW2.out hkk (by rw [bys_app]; exact hrow) (by rw [List.length_append, be_len]) hb3); have e2 := cellOf HR3.out.el (i := 2) (v := .slice xA x.locals.length x.lc) rfl; clear hrow hkk hb3))
                  obtain ⟨X3, hX3⟩ : ∃ Y, X2 ++ be ((x.locals.length : Int)) 4 = Y := ⟨_, rfl⟩
                  have lX3 : X3.length ≤ X2.length + 4 := by rw [← hX3, List.length_append, be_len]; exact Nat.le_refl _
                  rw [hX3] at HR3
                  have EX3 := Lib.hid hX3
                  clear hX3 HR2 HG2 HW2
                  clear e2
                  have HX3 : Hid (X3 = X0 ++ be4 [x.st, x.pa, x.locals.length]) := by
                    show _ = _
                    rw [← EX3.out, ← EX2.out, ← EX1.out]
                    simp [be4, show IntKind.u64.wrap (x.locals.length : Int) = x.locals.length from wrap_u64_id (by omega) (by omega)]
                  clear EX1 EX2 EX3
                  go_loopw [3, 109] (fun bv iv wr => ∃ (j : Nat) (v : Value), j ≤ x.locals.length ∧ iv = .int .i64 j ∧ v = bv ∧ Hid (∃ g o, ByR w1 wr v (X3 ++ be4 (x.locals.take j)) g o)) (fun _ iv _ => x.locals.length - (intOf iv).toNat)
                  case atStart => exact ⟨0, _, by omega, rfl, rfl, _, _, by rw [List.take_zero, show be4 [] = [] from rfl, List.append_nil]; exact HR3.out⟩
                  case round =>
                    clear HR3
                    obtain ⟨j, v0, hj, rfl, rfl, HRJ⟩ := hrel
                    obtain ⟨gj, oj, HRJ2⟩ := HRJ.out
                    have HR0 := Lib.hid HRJ2
                    clear HRJ HRJ2
                    by_cases hjl : j < x.locals.length
                    · obtain ⟨y, hy⟩ : ∃ y, x.locals[j]? = some y := ⟨_, List.getElem?_eq_getElem (by omega)⟩
                      have hl1 : (X3 ++ be4 (x.locals.take j)).length ≤ 5000 := by rw [List.length_append, be4_len, List.length_take]; omega
                      have HM := Lib.hid (be4_next hy)
                      obtain ⟨b2, o2, e2, cy⟩ := rs_ri (HLO.out.later HR0.out.bl) j y hy
                      subst e2
                      obtain ⟨Y0, hY0⟩ : ∃ Y, X3 ++ be4 (x.locals.take j) = Y := ⟨_, rfl⟩
                      have HY0 := Lib.hid hY0
                      rw [hY0] at HR0 hl1
                      clear hY0 hy
                      go_wp2_with fail
                      clear cy
                      refine Calls.mono (big_any 4 (by omega) (IntKind.u64.wrap y) _) ?_
                      rintro e wb0 ⟨g0, rfl, hg0, hb0, hw0⟩
                      obtain ⟨A0, c0, rfl, _, _, _, _⟩ := HR0.out.row.form
                      have HG0 := Lib.hid hb0
                      have HW0 := Lib.hid hw0
                      clear hg0 hb0 hw0
                      go_wp2_with ((at_builtin; refine append_row (by rfl) _ _ _ 5 _ 1 1 (by rfl) Tryd.underlying47 infoByte (by rfl) (by omega) (.slice A0 Y0.length c0) Y0.length (bys Y0) (by rfl) (HR0.out.row.kept (Kept.ofBelow HW0.out []) (by simp)) (some ⟨g0, 0, none⟩) 4 4 (bys (be (IntKind.u64.wrap y) 4)) (by rfl) (by rw [bys_len, be_len]) (by simp) (Nat.le_refl _) (rd_blkW HG0.out (by rw [bys_len, be_len]; simp only [maxLen]; omega)) (ones_by _) (by simp only [maxLen]; omega) (by omega) ?_; intro v1 wr1 hrow hkk hb3; have HR1 := Lib.hid (HR0.out.push (zs := Y0 ++ be (IntKind.u64.wrap y) 4) HW0.out hkk (by rw [bys_app]; exact hrow) (by rw [List.length_append, be_len]) hb3); clear hrow hkk hb3))
                      obtain ⟨Y1, hY1⟩ : ∃ Y, Y0 ++ be (IntKind.u64.wrap y) 4 = Y := ⟨_, rfl⟩
                      have lY1 : Y1.length ≤ Y0.length + 4 := by rw [← hY1, List.length_append, be_len]; exact Nat.le_refl _
                      rw [hY1] at HR1
                      have EY1 := Lib.hid hY1
                      clear hY1 HR0 HG0 HW0
                      have HQ : Hid (∃ g o, ByR w1 wr1 v1 (X3 ++ be4 (x.locals.take (j + 1))) g o) := ⟨_, _, by rw [HM.out, ← List.append_assoc, HY0.out, EY1.out]; exact HR1.out⟩
                      clear HR1 HM
                      go_roundw
                      case rel => exact ⟨j + 1, v1, by omega, by go_num, rfl, HQ.out⟩
                      case measure => simp [intOf]; omega
                    · have HQ : Hid (∃ g o, ByR w1 wr v0 (P2 c ++ (c.funcs.take (k + 1)).flatMap fnE) g o) := ⟨_, _, by
                        have := HR0.out
                        rw [List.take_of_length_le (by omega), HX3.out] at this
                        rw [HN.out, ← List.append_assoc, HX0.out, ← fnE_app]
                        exact this⟩
                      clear HR0 HN
                      go_wp2_with fail
                      go_roundw
                      case rel => exact ⟨k + 1, v0, by omega, by go_num, rfl, HQ.out⟩
                      case measure => simp [intOf]; omega
                · have HR1 : Hid (∃ g o, ByR w1 wr v0 (P3 c) g o) := by
                    have := HRE.out
                    rw [List.take_of_length_le (by omega)] at this
                    exact this
                  have HBXr := Lib.hid (HBX.out.later HR00.bl)
                  clear HRE HR00
                  have q6 := HBXr.out.c6
                  rw [HbA.out] at q6
                  go_wp2_with fail
                  clear q6 HBXr
                  go_loopw [3, 123] (fun bv iv wr => ∃ (k : Nat) (v : Value), k ≤ c.body.length ∧ iv = .int .i64 k ∧ v = bv ∧ Hid (∃ g o, ByR w1 wr v (P3 c ++ (c.body.take k).flatMap insE) g o)) (fun _ iv _ => c.body.length - (intOf iv).toNat)
                  case atStart =>
                    obtain ⟨g, o, h1⟩ := HR1.out
                    exact ⟨0, _, by omega, rfl, rfl, g, o, by rw [List.take_zero, List.flatMap_nil, List.append_nil]; exact h1⟩
                  case round =>
                    clear HR1 hlt hk
                    obtain ⟨k, v0, hk, rfl, rfl, HRE⟩ := hrel
                    obtain ⟨g00, o00, HR00⟩ := HRE.out
                    by_cases hlt : k < c.body.length
                    · obtain ⟨x, hx⟩ : ∃ x, c.body[k]? = some x := ⟨_, List.getElem?_eq_getElem (by omega)⟩
                      have hl0 := len3 HKK.out k
                      have HN := Lib.hid (fm_next (f := insE) hx)
                      obtain ⟨b1, o1, e1, d0, d1, d2, d3, d4⟩ := ins_at (HC.out.bo.later HR00.bl) k x hx
                      rw [HbA.out] at e1
                      subst e1
                      obtain ⟨X0, hX0⟩ : ∃ Y, P3 c ++ (c.body.take k).flatMap insE = Y := ⟨_, rfl⟩
                      have HX0 := Lib.hid hX0
                      rw [hX0] at HR00 hl0
                      have HR0 := Lib.hid (HR00.elem (.cells #[.int .i64 x.op, .int .i64 x.a, .int .i64 x.b, .int .u64 x.bits, .int .i64 x.at_] 34))
                      clear hX0 hx HR00 HRE
                      have hop : IntKind.u8.wrap x.op = IntKind.u64.wrap x.op / 256 ^ 0 % 256 := by rw [wrap_u64_eq]; show x.op % 256 = _; rw [Int.pow_zero, Int.ediv_one]; omega
                      obtain ⟨U0, hU0⟩ : ∃ U, IntKind.u64.wrap x.op / 256 ^ 0 % 256 = U := ⟨_, rfl⟩
                      have HU0 : Hid (be (IntKind.u64.wrap x.op) 1 = [U0]) := by show _ = _; rw [← hU0]; rfl
                      rw [hU0] at hop
                      clear hU0
                      obtain ⟨A0, c0, rfl, _, _, _, _⟩ := HR0.out.row.form
                      go_wp2_with ((at_builtin; refine append_row (by rfl) _ _ _ 5 _ 1 1 (by rfl) Tryd.underlying47 infoByte (by rfl) (by omega) (.slice A0 X0.length c0) X0.length (bys X0) (by rfl) (HR0.out.row.kept (Kept.ofBelow (below_alloc (Below.refl _ _) _) []) (by simp)) (some ⟨wr.heap.size + 1, 0, none⟩) 1 1 [.int .u8 U0] (by rfl) (by rfl) (by simp) (Nat.le_refl _) (rd_blkW (T := 5) (blk_new2 _ _ _) (by simp [maxLen])) (by simp [Value.oneCell']) (by simp only [maxLen]; omega) (by omega) ?_; intro v1 wr1 hrow hkk hb3; have HR1 := Lib.hid (HR0.out.push (zs := X0 ++ [U0]) (below_alloc (Below.refl _ _) _) hkk (by rw [bys_app]; exact hrow) (by rw [List.length_append]; rfl) hb3); have e1 := cellOf HR1.out.el (i := 1) (v := .int .i64 x.a) rfl; clear hrow hkk hb3))
                      obtain ⟨X1, hX1⟩ : ∃ Y, X0 ++ [U0] = Y := ⟨_, rfl⟩
                      have lX1 : X1.length ≤ X0.length + 1 := by rw [← hX1, List.length_append]; exact Nat.le_refl _
                      rw [hX1] at HR1
                      have EX1 := Lib.hid hX1
                      clear hX1 HR0 d0 d1 d2 d3 d4 e1 hop
                      refine Calls.mono (big_any 8 (by omega) (IntKind.u64.wrap x.a) _) ?_
                      rintro e wb1 ⟨g1, rfl, hg1, hb1, hw1⟩
                      obtain ⟨A1, c1, rfl, _, _, _, _⟩ := HR1.out.row.form
                      have HG1 := Lib.hid hb1
                      have HW1 := Lib.hid hw1
                      clear hg1 hb1 hw1
                      go_wp2_with ((at_builtin; refine append_row (by rfl) _ _ _ 5 _ 1 1 (by rfl) Tryd.underlying47 infoByte (by rfl) (by omega) (.slice A1 X1.length c1) X1.length (bys X1) (by rfl) (HR1.out.row.kept (Kept.ofBelow HW1.out []) (by simp)) (some ⟨g1, 0, none⟩) 8 8 (bys (be (IntKind.u64.wrap x.a) 8)) (by rfl) (by rw [bys_len, be_len]) (by simp) (Nat.le_refl _) (rd_blkW HG1.out (by rw [bys_len, be_len]; simp only [maxLen]; omega)) (ones_by _) (by simp only [maxLen]; omega) (by omega) ?_; intro v2 wr2 hrow hkk hb3; have HR2 := Lib.hid (HR1.out.push (zs := X1 ++ be (IntKind.u64.wrap x.a) 8) HW1.out hkk (by rw [bys_app]; exact hrow) (by rw [List.length_append, be_len]) hb3); have e2 := cellOf HR2.out.el (i := 2) (v := .int .i64 x.b) rfl; clear hrow hkk hb3))
                      obtain ⟨X2, hX2⟩ : ∃ Y, X1 ++ be (IntKind.u64.wrap x.a) 8 = Y := ⟨_, rfl⟩
                      have lX2 : X2.length ≤ X1.length + 8 := by rw [← hX2, List.length_append, be_len]; exact Nat.le_refl _
                      rw [hX2] at HR2
                      have EX2 := Lib.hid hX2
                      clear hX2 HR1 HG1 HW1
                      clear e2
                      refine Calls.mono (big_any 4 (by omega) (IntKind.u64.wrap x.b) _) ?_
                      rintro e wb2 ⟨g2, rfl, hg2, hb2, hw2⟩
                      obtain ⟨A2, c2, rfl, _, _, _, _⟩ := HR2.out.row.form
                      have HG2 := Lib.hid hb2
                      have HW2 := Lib.hid hw2
                      clear hg2 hb2 hw2
                      go_wp2_with ((at_builtin; refine append_row (by rfl) _ _ _ 5 _ 1 1 (by rfl) Tryd.underlying47 infoByte (by rfl) (by omega) (.slice A2 X2.length c2) X2.length (bys X2) (by rfl) (HR2.out.row.kept (Kept.ofBelow HW2.out []) (by simp)) (some ⟨g2, 0, none⟩) 4 4 (bys (be (IntKind.u64.wrap x.b) 4)) (by rfl) (by rw [bys_len, be_len]) (by simp) (Nat.le_refl _) (rd_blkW HG2.out (by rw [bys_len, be_len]; simp only [maxLen]; omega)) (ones_by _) (by simp only [maxLen]; omega) (by omega) ?_; intro v3 wr3 hrow hkk hb3; have HR3 := Lib.hid (HR2.out.push (zs := X2 ++ be (IntKind.u64.wrap x.b) 4) HW2.out hkk (by rw [bys_app]; exact hrow) (by rw [List.length_append, be_len]) hb3); have e3 := cellOf HR3.out.el (i := 3) (v := .int .u64 x.bits) rfl; clear hrow hkk hb3))
                      obtain ⟨X3, hX3⟩ : ∃ Y, X2 ++ be (IntKind.u64.wrap x.b) 4 = Y := ⟨_, rfl⟩
                      have lX3 : X3.length ≤ X2.length + 4 := by rw [← hX3, List.length_append, be_len]; exact Nat.le_refl _
                      rw [hX3] at HR3
                      have EX3 := Lib.hid hX3
                      clear hX3 HR2 HG2 HW2
                      clear e3
                      refine Calls.mono (big_any 8 (by omega) (x.bits) _) ?_
                      rintro e wb3 ⟨g3, rfl, hg3, hb3, hw3⟩
                      obtain ⟨A3, c3, rfl, _, _, _, _⟩ := HR3.out.row.form
                      have HG3 := Lib.hid hb3
                      have HW3 := Lib.hid hw3
                      clear hg3 hb3 hw3
                      go_wp2_with ((at_builtin; refine append_row (by rfl) _ _ _ 5 _ 1 1 (by rfl) Tryd.underlying47 infoByte (by rfl) (by omega) (.slice A3 X3.length c3) X3.length (bys X3) (by rfl) (HR3.out.row.kept (Kept.ofBelow HW3.out []) (by simp)) (some ⟨g3, 0, none⟩) 8 8 (bys (be (x.bits) 8)) (by rfl) (by rw [bys_len, be_len]) (by simp) (Nat.le_refl _) (rd_blkW HG3.out (by rw [bys_len, be_len]; simp only [maxLen]; omega)) (ones_by _) (by simp only [maxLen]; omega) (by omega) ?_; intro v4 wr4 hrow hkk hb3; have HR4 := Lib.hid (HR3.out.push (zs := X3 ++ be (x.bits) 8) HW3.out hkk (by rw [bys_app]; exact hrow) (by rw [List.length_append, be_len]) hb3); have e4 := cellOf HR4.out.el (i := 4) (v := .int .i64 x.at_) rfl; clear hrow hkk hb3))
                      obtain ⟨X4, hX4⟩ : ∃ Y, X3 ++ be (x.bits) 8 = Y := ⟨_, rfl⟩
                      have lX4 : X4.length ≤ X3.length + 8 := by rw [← hX4, List.length_append, be_len]; exact Nat.le_refl _
                      rw [hX4] at HR4
                      have EX4 := Lib.hid hX4
                      clear hX4 HR3 HG3 HW3
                      clear e4
                      refine Calls.mono (big_any 4 (by omega) (IntKind.u64.wrap x.at_) _) ?_
                      rintro e wb4 ⟨g4, rfl, hg4, hb4, hw4⟩
                      obtain ⟨A4, c4, rfl, _, _, _, _⟩ := HR4.out.row.form
                      have HG4 := Lib.hid hb4
                      have HW4 := Lib.hid hw4
                      clear hg4 hb4 hw4
                      go_wp2_with ((at_builtin; refine append_row (by rfl) _ _ _ 5 _ 1 1 (by rfl) Tryd.underlying47 infoByte (by rfl) (by omega) (.slice A4 X4.length c4) X4.length (bys X4) (by rfl) (HR4.out.row.kept (Kept.ofBelow HW4.out []) (by simp)) (some ⟨g4, 0, none⟩) 4 4 (bys (be (IntKind.u64.wrap x.at_) 4)) (by rfl) (by rw [bys_len, be_len]) (by simp) (Nat.le_refl _) (rd_blkW HG4.out (by rw [bys_len, be_len]; simp only [maxLen]; omega)) (ones_by _) (by simp only [maxLen]; omega) (by omega) ?_; intro v5 wr5 hrow hkk hb3; have HR5 := Lib.hid (HR4.out.push (zs := X4 ++ be (IntKind.u64.wrap x.at_) 4) HW4.out hkk (by rw [bys_app]; exact hrow) (by rw [List.length_append, be_len]) hb3); clear hrow hkk hb3))
                      obtain ⟨X5, hX5⟩ : ∃ Y, X4 ++ be (IntKind.u64.wrap x.at_) 4 = Y := ⟨_, rfl⟩
                      have lX5 : X5.length ≤ X4.length + 4 := by rw [← hX5, List.length_append, be_len]; exact Nat.le_refl _
                      rw [hX5] at HR5
                      have EX5 := Lib.hid hX5
                      clear hX5 HR4 HG4 HW4
                      have HQ : Hid (∃ g o, ByR w1 wr5 v5 (P3 c ++ (c.body.take (k + 1)).flatMap insE) g o) := ⟨_, _, by
                        rw [HN.out, ← List.append_assoc, HX0.out, ← insE_app, HU0.out, EX1.out, EX2.out, be4_one, EX3.out, EX4.out, be4_one, EX5.out]; exact HR5.out⟩
                      clear HR5 HN
                      go_roundw
                      case rel => exact ⟨k + 1, v5, by omega, by go_num, rfl, HQ.out⟩
                      case measure => simp [intOf]; omega
                    · have HF : Hid (Row wr 5 1 v0 (encC c).length (bys (encC c)) ∧ Below w.heap.size w wr) := by
                        have := HR00
                        rw [List.take_of_length_le (by omega)] at this
                        exact ⟨this.row, HB0.out.trans (this.bl.mono HB0.out.size)⟩
                      clear HRE HR00
                      go_wp2_with fail
                      go_ret
                      exact ⟨_, rfl, HF.out.1, HF.out.2⟩
end Go.Proofs.YtbpbimkadiobfaaDoor

/-
  CodeForms: which codes are in form, what their bytes are, and that these are read back.
-/
namespace Go.Proofs.YtbpbimkadiobfaaDoor
open Go.RowKit Go.Stk
attribute [local go_sem ↓] Go.wp_at_zero Go.wp_at_succ

theorem fnsEq_pf : ∀ (l m : List Fn), l.map Fn.pf = m.map Fn.pf → fnsEq l m = true
  | [], [], _ => rfl
  | [], _ :: _, h => by simp at h
  | _ :: _, [], h => by simp at h
  | f :: r, g :: s, h => by
    simp only [List.map_cons, List.cons.injEq, Fn.pf, Prod.mk.injEq] at h
    obtain ⟨⟨h1, h2, h3⟩, h4⟩ := h
    simp [fnsEq, fnEq, h1, h2, h3, fnsEq_pf r s h4]
theorem sameB_pl {a b : Co} (h : a.pl = b.pl) : sameB a b = true := by
  unfold Co.pl at h
  injection h with h1 h2 h3 h4 h5 h6 h7
  unfold sameB
  simp [h1, h2, h3, h4, h6, h7, fnsEq_pf _ _ h5]
def cellsIn (w : World) (b : Nat) (c : Co) : Prop :=
  w.cell? ⟨b, 0, none⟩ = some (.slice c.pA c.places.length c.pc) ∧ w.cell? ⟨b, 1, none⟩ = some (.int .i64 c.mux) ∧ w.cell? ⟨b, 2, none⟩ = some (.int .i64 c.ato) ∧ w.cell? ⟨b, 3, none⟩ = some (.slice c.cA c.chans.length c.cc) ∧ w.cell? ⟨b, 4, none⟩ = some (.slice c.fA c.funcs.length c.fc) ∧ w.cell? ⟨b, 5, none⟩ = some (.int .i64 c.start) ∧ w.cell? ⟨b, 6, none⟩ = some (.slice c.bA c.body.length c.bc)
/-- Both codes and the text, as they stand later. -/
structure FoR (w wr : World) (c d : Co) (bx by_ : Nat) (A : Option Addr) (B : List Int) : Prop where
  bl : Below w.heap.size w wr
  rep : c.Rep wr
  rep2 : d.Rep wr
  box : Co.Box wr bx c
  box2 : Co.Box wr by_ d
  rs : Rs wr A (bys B)
theorem FoR.later {w wr w' : World} {c d : Co} {bx by_ : Nat} {A : Option Addr} {B : List Int} (h : FoR w wr c d bx by_ A B) (hb : Below wr.heap.size wr w') : FoR w w' c d bx by_ A B :=
  ⟨below_next h.bl hb, h.rep.later hb, h.rep2.later hb, h.box.later hb, h.box2.later hb, h.rs.later hb⟩
theorem FoR.cells {w wr : World} {c d : Co} {bx by_ : Nat} {A : Option Addr} {B : List Int} (h : FoR w wr c d bx by_ A B) : cellsIn wr bx c ∧ cellsIn wr by_ d :=
  ⟨⟨h.box.c0, h.box.c1, h.box.c2, h.box.c3, h.box.c4, h.box.c5, h.box.c6⟩, ⟨h.box2.c0, h.box2.c1, h.box2.c2, h.box2.c3, h.box2.c4, h.box2.c5, h.box2.c6⟩⟩
set_option maxRecDepth 100000 in
set_option maxHeartbeats 4000000 in
theorem forms_law (c : Co) (w : World) (hc : CoOk w c) (ads : List Addr) (hS : Sent w 116 errGs ads) (ec : Addr) (hE : Errs w ec) (h8 : ads[8]? = some ec) :
    Calls Tryd.prog 6 #[c.agg] w (Ret w (.bool true)) := by
  have hb0 : Below w.heap.size w (w.alloc (.cells #[.slice c.pA c.places.length c.pc, .int .i64 c.mux, .int .i64 c.ato, .slice c.cA c.chans.length c.cc, .slice c.fA c.funcs.length c.fc, .int .i64 c.start, .slice c.bA c.body.length c.bc] 31)) := below_alloc (Below.refl _ _) _
  have HC := Lib.hid hc
  have HS := Lib.hid hS
  have HE := Lib.hid hE
  have HR : Hid (LawR w (w.alloc (.cells #[.slice c.pA c.places.length c.pc, .int .i64 c.mux, .int .i64 c.ato, .slice c.cA c.chans.length c.cc, .slice c.fA c.funcs.length c.fc, .int .i64 c.start, .slice c.bA c.body.length c.bc] 31)) c w.heap.size) := ⟨hb0, hc.rep, Co.box_new w c _⟩
  clear hc hS hE hb0
  unfold Co.agg
  go_enter Tryd.func6, Tryd.ntmps6
  go_wp2_with fail
  generalize w.alloc (.cells #[.slice c.pA c.places.length c.pc, .int .i64 c.mux, .int .i64 c.ato, .slice c.cA c.chans.length c.cc, .slice c.fA c.funcs.length c.fc, .int .i64 c.start, .slice c.bA c.body.length c.bc] 31) = w1 at HR ⊢
  refine (alive_any w1 ec (HE.out.later HR.out.bl)).mono ?_
  rintro e w2 ⟨rfl, hb2⟩
  have HR2 := Lib.hid (HR.out.later hb2)
  clear HR hb2
  obtain ⟨q0, q1, q2, q3, q4, q5, q6⟩ := HR2.out.cells
  go_wp2_with fail
  refine (long_any c w2 HR2.out.rep').mono ?_
  rintro e w3 ⟨rfl, hb3⟩
  have HR3 := Lib.hid (HR2.out.later hb3)
  clear HR2 hb3 q0 q1 q2 q3 q4 q5 q6
  by_cases hlong : 20000 < coLen c
  · rw [decide_eq_true hlong]
    go_wp2_with fail
    go_ret
    exact ⟨rfl, HR3.out.bl⟩
  rw [decide_eq_false hlong]
  obtain ⟨q0, q1, q2, q3, q4, q5, q6⟩ := HR3.out.cells
  go_wp2_with fail
  refine (refForm_any c w3 HR3.out.rep').mono ?_
  rintro e w4 ⟨rfl, hb4⟩
  have HR4 := Lib.hid (HR3.out.later hb4)
  clear HR3 hb4 q0 q1 q2 q3 q4 q5 q6
  obtain ⟨z, hz⟩ : ∃ z, checkB c = z := ⟨_, rfl⟩
  rw [hz]
  have HZ := Lib.hid hz
  clear hz
  obtain ⟨q0, q1, q2, q3, q4, q5, q6⟩ := HR4.out.cells
  cases z
  · go_wp2_with fail
    refine (check_any c w4 HR4.out.rep' ec (HE.out.later HR4.out.bl)).mono ?_
    rintro e w5 ⟨rfl, hb5⟩
    have HR5 := Lib.hid (HR4.out.later hb5)
    clear HR4 hb5 q0 q1 q2 q3 q4 q5 q6
    have ev : checkV c ec = errV ec := by unfold checkV; rw [HZ.out]; rfl
    rw [ev]
    clear ev
    obtain ⟨q0, q1, q2, q3, q4, q5, q6⟩ := HR5.out.cells
    unfold errV
    go_wp2_with fail
    refine (putC_any c w5 HR5.out.rep' ec (HE.out.later HR5.out.bl)).mono ?_
    rintro e w6 (⟨hk, _⟩ | ⟨_, rfl, hb6⟩)
    · rw [HZ.out] at hk; cases hk
    have HR6 := Lib.hid (HR5.out.later hb6)
    clear HR5 hb6 q0 q1 q2 q3 q4 q5 q6
    unfold errV
    go_wp2_with fail
    refine (numC_any w6 ads (HS.out.later HR6.out.bl) ec h8).mono ?_
    rintro e w7 ⟨rfl, hb7⟩
    have HR7 := Lib.hid (HR6.out.later hb7)
    clear HR6 hb7
    go_wp2_with fail
    refine (numC_any w7 ads (HS.out.later HR7.out.bl) ec h8).mono ?_
    rintro e w8 ⟨rfl, hb8⟩
    have HR8 := Lib.hid (HR7.out.later hb8)
    clear HR7 hb8
    go_wp2_with fail
    go_ret
    exact ⟨rfl, HR8.out.bl⟩
  · go_wp2_with fail
    refine (check_any c w4 HR4.out.rep' ec (HE.out.later HR4.out.bl)).mono ?_
    rintro e w5 ⟨rfl, hb5⟩
    have HR5 := Lib.hid (HR4.out.later hb5)
    clear HR4 hb5 q0 q1 q2 q3 q4 q5 q6
    have ev : checkV c ec = .nilIface := by unfold checkV; rw [HZ.out]; rfl
    rw [ev]
    clear ev
    obtain ⟨q0, q1, q2, q3, q4, q5, q6⟩ := HR5.out.cells
    go_wp2_with fail
    refine (putC_any c w5 HR5.out.rep' ec (HE.out.later HR5.out.bl)).mono ?_
    rintro e w6 (⟨hk, v, rfl, hrow, hown, hb6⟩ | ⟨hk, _⟩)
    rotate_left
    · rw [HZ.out] at hk; cases hk
    obtain ⟨hN28, hN3⟩ := encC_len hk
    have HBY := Lib.hid (byt_enc c fun x hx => (HC.out.body x hx).2.2.2.1.1)
    have HPF := Lib.hid (pcF_of hk fun x hx => ⟨(HC.out.body x hx).2.1, (HC.out.body x hx).2.2.2.1⟩)
    obtain ⟨B, hB⟩ : ∃ B, encC c = B := ⟨_, rfl⟩
    have HPB : Hid (encC c = B) := hB
    rw [hB] at hN28 hN3 HBY hrow
    obtain ⟨N, hN⟩ : ∃ N, B.length = N := ⟨_, rfl⟩
    rw [hN] at hN28 hN3 hrow
    obtain ⟨gb, cap, rfl, _, hnc, hcm, hgl, _, _⟩ := hrow.mid (by omega)
    have HRS := Lib.hid (row_rs hrow)
    have HNN := Lib.hid hN
    have HR6 := Lib.hid (HR5.out.later hb6)
    clear HR5 hb6 hB hN hown q0 q1 q2 q3 q4 q5 q6 hrow hk
    have HPP : Hid (parse B = some c.pl) := by show _ = _; rw [← HPB.out, encC_pl]; exact parse_enc _ HPF.out
    go_wp2_with fail
    refine (getN_any B N HNN.out HBY.out (by rw [HNN.out]; omega) gb 0 cap w6 HRS.out (by rw [HNN.out]; exact hnc) hcm hgl ec (HE.out.later HR6.out.bl)).mono ?_
    rintro e w7 ⟨hb7, ⟨d, hd, _, rfl, hrd⟩ | ⟨hno, _⟩⟩
    rotate_left
    · have := hno c HPP.out
      rw [HZ.out] at this; cases this
    have HPL : Hid (sameB d c = true) := by
      rw [HPP.out] at hd
      exact sameB_pl (Option.some.inj hd).symm
    have HF : Hid (FoR w (w7.alloc (.cells #[.slice d.pA d.places.length d.pc, .int .i64 d.mux, .int .i64 d.ato, .slice d.cA d.chans.length d.cc, .slice d.fA d.funcs.length d.fc, .int .i64 d.start, .slice d.bA d.body.length d.bc] 31)) c d w.heap.size w7.heap.size (some ⟨gb, 0, none⟩) B) := by
      have hR7 := HR6.out.later hb7
      have hA : Below w7.heap.size w7 (w7.alloc (.cells #[.slice d.pA d.places.length d.pc, .int .i64 d.mux, .int .i64 d.ato, .slice d.cA d.chans.length d.cc, .slice d.fA d.funcs.length d.fc, .int .i64 d.start, .slice d.bA d.body.length d.bc] 31)) := below_alloc (Below.refl _ _) _
      have hR8 := hR7.later hA
      exact ⟨hR8.bl, hR8.rep', hrd.later hA, hR8.box, Co.box_new w7 d _, (HRS.out.later hb7).later hA⟩
    have HPB2 := Lib.hid HPB.out
    have hN0 : 0 < N := by omega
    clear hd hrd hb7 HR6 HRS HPP HPF HPB HBY hcm hnc hgl
    unfold Co.agg
    go_upto_region 11 with fail
    generalize w7.alloc (.cells #[.slice d.pA d.places.length d.pc, .int .i64 d.mux, .int .i64 d.ato, .slice d.cA d.chans.length d.cc, .slice d.fA d.funcs.length d.fc, .int .i64 d.start, .slice d.bA d.body.length d.bc] 31) = W at HF ⊢
    obtain ⟨⟨q0, q1, q2, q3, q4, q5, q6⟩, ⟨r0, r1, r2, r3, r4, r5, r6⟩⟩ := HF.out.cells
    have e0 := conv_rs (cp := cap) HF.out.rs HNN.out (by omega)
    have eD := conv_rs (cp := cap) (HF.out.rs.later (below_dN W 1)) HNN.out (by omega)
    go_region_held (fun W => W.cell? ⟨w.heap.size, 0, none⟩ = some (.slice c.pA c.places.length c.pc) ∧ W.cell? ⟨w.heap.size, 1, none⟩ = some (.int .i64 c.mux) ∧ W.cell? ⟨w.heap.size, 2, none⟩ = some (.int .i64 c.ato) ∧ W.cell? ⟨w.heap.size, 3, none⟩ = some (.slice c.cA c.chans.length c.cc) ∧ W.cell? ⟨w.heap.size, 4, none⟩ = some (.slice c.fA c.funcs.length c.fc) ∧ W.cell? ⟨w.heap.size, 5, none⟩ = some (.int .i64 c.start) ∧ W.cell? ⟨w.heap.size, 6, none⟩ = some (.slice c.bA c.body.length c.bc) ∧ W.cell? ⟨w7.heap.size, 0, none⟩ = some (.slice d.pA d.places.length d.pc) ∧ W.cell? ⟨w7.heap.size, 1, none⟩ = some (.int .i64 d.mux) ∧ W.cell? ⟨w7.heap.size, 2, none⟩ = some (.int .i64 d.ato) ∧ W.cell? ⟨w7.heap.size, 3, none⟩ = some (.slice d.cA d.chans.length d.cc) ∧ W.cell? ⟨w7.heap.size, 4, none⟩ = some (.slice d.fA d.funcs.length d.fc) ∧ W.cell? ⟨w7.heap.size, 5, none⟩ = some (.int .i64 d.start) ∧ W.cell? ⟨w7.heap.size, 6, none⟩ = some (.slice d.bA d.body.length d.bc) ∧ (convert 47 9 (.slice (some ⟨gb, 0, none⟩) N cap)).run Tryd.prog W = .ok (.string (strOfNums B)) W)
      (first | (refine ⟨?_, ?_, ?_, ?_, ?_, ?_, ?_, ?_, ?_, ?_, ?_, ?_, ?_, ?_, ?_⟩ <;> first | assumption | (rw [World.cell?_drew]; assumption)) | go_keep)
      (first
        | (go_at_call 23; ((refine (refBytes_any c _ (HF.out.later (by first | exact below_drewN0 _ _ | exact below_drew1 (Below.refl _ _) | exact Below.refl _ _)).rep (by exact HZ.out)).mono ?_); rintro e w8 ⟨v8, rfl, hrow8, hb8⟩; rw [HPB2.out, HNN.out] at hrow8; obtain ⟨g8, c8, rfl, _, _, _, _, _, _⟩ := hrow8.mid hN0; have e8 := conv_rs (cp := c8) (row_rs hrow8) HNN.out hN0; have HF2 := Lib.hid (HF.out.later (below_next (by first | exact below_drewN0 _ _ | exact below_drew1 (Below.refl _ _) | exact Below.refl _ _) hb8)); have e9 := conv_rs (cp := cap) HF2.out.rs HNN.out hN0; have q80 := cell_later hb8 q0; have q81 := cell_later hb8 q1; have q82 := cell_later hb8 q2; have q83 := cell_later hb8 q3; have q84 := cell_later hb8 q4; have q85 := cell_later hb8 q5; have q86 := cell_later hb8 q6; have r80 := cell_later hb8 r0; have r81 := cell_later hb8 r1; have r82 := cell_later hb8 r2; have r83 := cell_later hb8 r3; have r84 := cell_later hb8 r4; have r85 := cell_later hb8 r5; have r86 := cell_later hb8 r6; clear hrow8))
        | (go_at_call 18; ((refine (refSame_any d c _ (HF2.out.later (by first | exact below_drewN0 _ _ | exact below_drew1 (Below.refl _ _) | exact Below.refl _ _)).rep2 (HF2.out.later (by first | exact below_drewN0 _ _ | exact below_drew1 (Below.refl _ _) | exact Below.refl _ _)).rep).mono ?_); rintro e w9 ⟨rfl, hb9⟩; rw [HPL.out]; have HF3 := Lib.hid (HF2.out.later (below_next (by first | exact below_drewN0 _ _ | exact below_drew1 (Below.refl _ _) | exact Below.refl _ _) hb9)); have e10 := conv_rs (cp := cap) HF3.out.rs HNN.out hN0; have q90 := cell_later hb9 q80; have q91 := cell_later hb9 q81; have q92 := cell_later hb9 q82; have q93 := cell_later hb9 q83; have q94 := cell_later hb9 q84; have q95 := cell_later hb9 q85; have q96 := cell_later hb9 q86; have r90 := cell_later hb9 r80; have r91 := cell_later hb9 r81; have r92 := cell_later hb9 r82; have r93 := cell_later hb9 r83; have r94 := cell_later hb9 r84; have r95 := cell_later hb9 r85; have r96 := cell_later hb9 r86; skip)))
    go_wp2_with fail
    go_ret
    exact ⟨rfl, HF3.out.bl⟩
end Go.Proofs.YtbpbimkadiobfaaDoor
