/-
  The walks of SameInts and of alive.
-/
import Derived.Test.YtcipikacgkkapaaDoorWc
namespace Go.Proofs.YtcipikacgkkapaaDoor
open Go.RowKit Go.Stk
attribute [local go_sem] max2_int max_two

theorem sameInts_any (xs ys : List Int) (A B : Option Addr) (ca cb : Nat) (w : World) (hx : RI w A xs) (hy : RI w B ys) :
    Calls Tryd.prog 25 #[.slice A xs.length ca, .slice B ys.length cb] w fun e w' => e = .returned (.bool (decide (xs = ys))) ∧ Below w.heap.size w w' := by
  have hxl := hx.len
  have hyl := hy.len
  by_cases hlen : xs.length = ys.length
  · have hl2 : ((xs.length : Int) != (ys.length : Int)) = false := by simp [hlen]
    have HL := Lib.hid hlen
    clear hlen
    go_enter Tryd.func25, Tryd.ntmps25
    go_wp2_with fail
    go_loopw [13] (fun i wr => ∃ k : Nat, k ≤ xs.length ∧ i = .int .i64 k ∧ Below w.heap.size w wr ∧ Hid (xs.take k = ys.take k)) (fun i _ => xs.length - (intOf i).toNat)
    case atStart => exact ⟨0, Nat.zero_le _, rfl, Below.refl _ _, by simp [Hid]⟩
    case round =>
      obtain ⟨k, hk, rfl, hb, ht⟩ := hrel
      by_cases hlt : k < xs.length
      · have hlt2 : k < ys.length := by have := HL.out; omega
        obtain ⟨b1, o1, rfl, c1⟩ := (hx.later hb).at k hlt
        obtain ⟨b2, o2, rfl, c2⟩ := (hy.later hb).at k hlt2
        obtain ⟨x, ex⟩ : ∃ x, xs.getD k 0 = x := ⟨_, rfl⟩
        obtain ⟨y, ey⟩ : ∃ y, ys.getD k 0 = y := ⟨_, rfl⟩
        rw [ex] at c1
        rw [ey] at c2
        have EX := Lib.hid ex
        have EY := Lib.hid ey
        clear ex ey hx hy
        by_cases hxy : x = y
        · subst hxy
          go_wp2_with fail
          go_quiet (fail)
          go_wp2_with fail
          have HT : Hid (xs.take (k+1) = ys.take (k+1)) := by
            show _ = _
            rw [List.take_succ_eq_append_getElem hlt, List.take_succ_eq_append_getElem hlt2, ht.out]
            have h1 := EX.out; have h2 := EY.out
            simp [hlt, hlt2] at h1 h2
            rw [h1, h2]
          go_roundw
          case rel => exact ⟨k+1, by omega, by go_num, by first | exact hb | exact below_drewN hb _, HT⟩
          case measure => simp [intOf]; omega
        · have hxy2 : (x != y) = true := by simpa using hxy
          go_wp2_with fail
          go_quiet (fail)
          go_wp2_with fail
          go_ret
          refine ⟨?_, below_drewN hb _⟩
          have h1 := EX.out; have h2 := EY.out
          have : ¬ xs = ys := fun e => hxy (by rw [← h1, ← h2, e])
          simp [this]
      · go_wp2_with fail
        go_ret
        refine ⟨?_, hb⟩
        have h1 := ht.out
        have h2 := HL.out
        rw [List.take_of_length_le (by omega), List.take_of_length_le (by omega)] at h1
        simp [h1]
  · have hl2 : ((xs.length : Int) != (ys.length : Int)) = true := by simp; omega
    go_enter Tryd.func25, Tryd.ntmps25
    go_wp2_with fail
    go_ret
    exact ⟨by simp; intro h; exact hlen (by rw [h]), Below.refl _ _⟩

theorem ri_new (W : World) (e : TypeId) (cs : Array Value) (xs : List Int) (h : cs.toList = ints xs) (hm : xs.length ≤ maxLen) : RI (W.alloc (.cells cs e)) (some ⟨W.heap.size, 0, none⟩) xs := by
  have hs : cs.size = xs.length := by have := congrArg List.length h; simpa using this
  refine ⟨by simpa using hm, fun _ => ⟨W.heap.size, 0, rfl, fun j hj => ?_⟩⟩
  simp only [Nat.zero_add]
  rw [World.cell?_alloc_new]
  have h2 : (ints xs)[j]? = some (ints xs)[j] := List.getElem?_eq_getElem hj
  have h3 : cs[j]? = (ints xs)[j]? := by rw [← h]; simp
  rw [h3, h2]

theorem ri_at (W : World) (n : Nat) (e : TypeId) (cs : Array Value) (xs : List Int) (hn : n = W.heap.size) (h : cs.toList = ints xs) (hm : xs.length ≤ maxLen) : RI (W.alloc (.cells cs e)) (some ⟨n, 0, none⟩) xs := by
  subst hn; exact ri_new W e cs xs h hm
theorem below_alloc {w W : World} (h : Below w.heap.size w W) (o : Obj) : Below w.heap.size w (W.alloc o) := h.alloc h.size o
theorem below_next {w W W' : World} (h : Below w.heap.size w W) (k : Below W.heap.size W W') : Below w.heap.size w W' := below_then h h.size k

theorem alive_any (w : World) : Calls Tryd.prog 11 #[] w (Ret w (.bool true)) := by
  go_enter Tryd.func11, Tryd.ntmps11
  go_wp2_with fail
  have hb0 := below_alloc (Below.refl w.heap.size w) (.cells #[.int .i64 0, .int .i64 0] 3)
  refine (tick_ok [0, 0] (some ⟨w.heap.size, 0, none⟩) 2 1 _ (ri_new _ _ _ _ rfl (by decide)) (by decide) (by decide) (by decide) (by decide)).mono ?_
  rintro e w1 ⟨v1, rfl, ho1, hb1⟩
  have hb1 := below_next hb0 hb1
  have e1 : joinL [0, 0] (oneL 1 (getL [0, 0] (1 : Nat) + 1)) = [0, 1] := by decide
  rw [e1] at ho1
  obtain ⟨A1, c1, rfl, _, r1⟩ := ho1.ri
  clear hb0 e1 ho1
  go_wp2_with fail
  have r1' := r1.later (below_alloc (Below.refl _ w1) (.cells #[.int .i64 0, .int .i64 1] 3))
  refine (sameInts_any [0, 1] [0, 1] A1 _ c1 2 _ r1' (ri_new _ _ _ _ rfl (by decide))).mono ?_
  rintro e w2 ⟨rfl, hb2⟩
  have hb2 := below_next (below_alloc hb1 _) hb2
  clear hb1 r1 r1'
  go_wp2_with fail
  have hb3 := below_alloc (below_alloc hb2 (.cells #[.int .i64 3, .int .i64 0] 3)) (.cells #[.int .i64 1, .int .i64 1] 3)
  refine (join_any [3, 0] [1, 1] _ _ 2 2 _ ((ri_new w2 3 #[.int .i64 3, .int .i64 0] [3, 0] rfl (by decide)).later (below_alloc (Below.refl _ _) (.cells #[.int .i64 1, .int .i64 1] 3))) (ri_at (w2.alloc (.cells #[.int .i64 3, .int .i64 0] 3)) (w2.heap.size + 1) 3 #[.int .i64 1, .int .i64 1] [1, 1] (by simp) rfl (by decide)) (by decide) (by decide)).mono ?_
  rintro e w4 ⟨v4, rfl, ho4, hb4⟩
  have hb4 := below_next hb3 hb4
  have e4 : joinL [3, 0] [1, 1] = [3, 1] := by decide
  rw [e4] at ho4
  obtain ⟨A4, c4, rfl, _, r4⟩ := ho4.ri
  clear hb3 e4 ho4 hb2
  go_wp2_with fail
  have r4' := r4.later (below_alloc (Below.refl _ w4) (.cells #[.int .i64 3, .int .i64 1] 3))
  refine (sameInts_any [3, 1] [3, 1] A4 _ c4 2 _ r4' (ri_new _ _ _ _ rfl (by decide))).mono ?_
  rintro e w5 ⟨rfl, hb5⟩
  have hb5 := below_next (below_alloc hb4 _) hb5
  clear hb4 r4 r4'
  go_wp2_with fail
  have hb6 := below_alloc (below_alloc hb5 (.cells #[.int .i64 3] 3)) (.cells #[.int .i64 0, .int .i64 1] 3)
  refine (apart_any [3] [0, 1] _ _ 1 2 _ ((ri_new w5 3 #[.int .i64 3] [3] rfl (by decide)).later (below_alloc (Below.refl _ _) (.cells #[.int .i64 0, .int .i64 1] 3))) (ri_at (w5.alloc (.cells #[.int .i64 3] 3)) (w5.heap.size + 1) 3 #[.int .i64 0, .int .i64 1] [0, 1] (by simp) rfl (by decide)) (by decide) (by decide)).mono ?_
  rintro e w6 ⟨rfl, hb7⟩
  have hb7 := below_next hb6 hb7
  clear hb6 hb5
  go_wp2_with fail
  go_ret
  exact ⟨rfl, hb7⟩
end Go.Proofs.YtcipikacgkkapaaDoor
