/-
  SameInts by contract.
-/
import Derived.Test.YtpjphmpebegidaaDoorProg
import Derived.Test.YtpjphmpebegidaaDoorRet
namespace Go.Proofs.YtpjphmpebegidaaDoor
open Go.RowKit Go.Stk
theorem sameInts_any (xs ys : List Int) (A B : Option Addr) (ca cb : Nat) (w : World) (hx : RI w A xs) (hy : RI w B ys) :
    Calls Tryd.prog 23 #[.slice A xs.length ca, .slice B ys.length cb] w fun e w' => e = .returned (.bool (decide (xs = ys))) ∧ Below w.heap.size w w' := by
  have hxl := hx.len
  have hyl := hy.len
  by_cases hlen : xs.length = ys.length
  · have hl2 : ((xs.length : Int) != (ys.length : Int)) = false := by simp [hlen]
    have HL := Lib.hid hlen
    clear hlen
    go_enter Tryd.func23, Tryd.ntmps23
    go_wp2_with fail
    go_loopw [13] (fun i wr => ∃ k : Nat, k ≤ xs.length ∧ i = .int .i64 k ∧ Below w.heap.size w wr ∧ Hid (xs.take k = ys.take k)) (fun i _ => xs.length - (intOf i).toNat)
    case atStart => exact ⟨0, Nat.zero_le _, rfl, Below.refl _ _, by simp [Hid]⟩
    case round =>
      obtain ⟨k, hk, rfl, hb, ht⟩ := hrel
      by_cases hlt : k < xs.length
      · have hlt2 : k < ys.length := by have := HL.out; omega
        obtain ⟨b1, o1, rfl, c1⟩ := (hx.later hb).at k hlt
        obtain ⟨b2, o2, rfl, c2⟩ := (hy.later hb).at k hlt2
        obtain ⟨x, ex⟩ : ∃ x, xs.getD k 0 = x := ⟨_, rfl⟩
        obtain ⟨y, ey⟩ : ∃ y, ys.getD k 0 = y := ⟨_, rfl⟩
        rw [ex] at c1
        rw [ey] at c2
        have EX := Lib.hid ex
        have EY := Lib.hid ey
        clear ex ey hx hy
        by_cases hxy : x = y
        · subst hxy
          go_wp2_with fail
          go_quiet (fail)
          go_wp2_with fail
          have HT : Hid (xs.take (k+1) = ys.take (k+1)) := by
            show _ = _
            rw [List.take_succ_eq_append_getElem hlt, List.take_succ_eq_append_getElem hlt2, ht.out]
            have h1 := EX.out; have h2 := EY.out
            simp [hlt, hlt2] at h1 h2
            rw [h1, h2]
          go_roundw
          case rel => exact ⟨k+1, by omega, by go_num, by first | exact hb | exact below_drewN hb _, HT⟩
          case measure => simp [intOf]; omega
        · have hxy2 : (x != y) = true := by simpa using hxy
          go_wp2_with fail
          go_quiet (fail)
          go_wp2_with fail
          go_ret
          refine ⟨?_, below_drewN hb _⟩
          have h1 := EX.out; have h2 := EY.out
          have : ¬ xs = ys := fun e => hxy (by rw [← h1, ← h2, e])
          simp [this]
      · go_wp2_with fail
        go_ret
        refine ⟨?_, hb⟩
        have h1 := ht.out
        have h2 := HL.out
        rw [List.take_of_length_le (by omega), List.take_of_length_le (by omega)] at h1
        simp [h1]
  · have hl2 : ((xs.length : Int) != (ys.length : Int)) = true := by simp; omega
    go_enter Tryd.func23, Tryd.ntmps23
    go_wp2_with fail
    go_ret
    exact ⟨by simp; intro h; exact hlen (by rw [h]), Below.refl _ _⟩

end Go.Proofs.YtpjphmpebegidaaDoor
