/-
  Lists compared.
-/
import Derived.Test.YtbpbimkadiobfaaDoorCode5
import Derived.Deep.QuietTactic
namespace Go.Proofs.YtbpbimkadiobfaaDoor
open Go.RowKit Go.Stk

theorem below_drewN1 {w W : World} (h : Below w.heap.size w W) (n : Nat) : Below w.heap.size w (W.drewN n) := ⟨h.os, h.tape, h.output, h.size, h.block⟩
set_option maxRecDepth 100000 in
set_option maxHeartbeats 4000000 in
theorem equalInt_any (l m : List Int) (A B : Option Addr) (ca cb : Nat) (w : World) (hl : l.length ≤ 140737488351232) (hm : m.length ≤ 140737488351232) (h1 : Rs w A (ints l)) (h2 : Rs w B (ints m)) :
    Calls Tryd.prog 34 #[.slice A l.length ca, .slice B m.length cb] w (Ret w (.bool (decide (l = m)))) := by
  have hm2 := hm
  by_cases hlen : l.length = m.length
  · have hl2 : ((l.length : Int) != (m.length : Int)) = false := by simp [hlen]
    have HL := Lib.hid hlen
    have H1 := Lib.hid h1
    have H2 := Lib.hid h2
    obtain ⟨S, hS⟩ : ∃ S, decide (l = m) = S := ⟨_, rfl⟩
    rw [hS]
    have HS := Lib.hid hS
    clear hlen h1 h2 hS
    go_enter Tryd.func34, Tryd.ntmps34
    go_wp2_with fail
    go_loopw [13] (fun i wr => ∃ k : Nat, k ≤ l.length ∧ i = .int .i64 k ∧ Hid (Below w.heap.size w wr) ∧ Hid (l.take k = m.take k)) (fun i _ => l.length - (intOf i).toNat)
    case atStart => exact ⟨0, Nat.zero_le _, rfl, Below.refl _ _, by simp [Hid]⟩
    case round =>
      obtain ⟨k, hk, rfl, hb, ht⟩ := hrel
      by_cases hlt : k < l.length
      · have hlt2 : k < m.length := by have := HL.out; omega
        obtain ⟨x, hx⟩ : ∃ x, l[k]? = some x := ⟨_, List.getElem?_eq_getElem hlt⟩
        obtain ⟨y, hy⟩ : ∃ y, m[k]? = some y := ⟨_, List.getElem?_eq_getElem hlt2⟩
        obtain ⟨b1, o1, rfl, c1⟩ := rs_ri (H1.out.later hb.out) k x hx
        obtain ⟨b2, o2, rfl, c2⟩ := rs_ri (H2.out.later hb.out) k y hy
        have HN : Hid (x = y → l.take (k + 1) = m.take (k + 1)) := fun e => by
          rw [List.take_add_one, List.take_add_one, hx, hy, ht.out, e]
        have HD : Hid (x ≠ y → S = false) := fun e => by
          rw [← HS.out]
          refine decide_eq_false fun e2 => e ?_
          rw [e2] at hx
          rw [hx] at hy
          exact Option.some.inj hy
        clear hx hy ht
        by_cases hxy : x = y
        · have HT : Hid (l.take (k + 1) = m.take (k + 1)) := HN.out hxy
          subst hxy
          clear HN HD
          go_wp2_with fail
          go_quiet (fail)
          go_wp2_with fail
          go_roundw
          case rel => exact ⟨k + 1, by omega, by go_num, by first | exact hb | exact below_drewN1 hb.out _, HT⟩
          case measure => simp [intOf]; omega
        · have HF : Hid (S = false) := HD.out hxy
          have hxy2 : (x != y) = true := by simpa using hxy
          clear HN HD
          go_wp2_with fail
          go_quiet (fail)
          go_wp2_with fail
          go_ret
          exact ⟨by rw [HF.out]; rfl, by first | exact hb.out | exact below_drewN1 hb.out _⟩
      · have HF : Hid (S = true) := by
          have h3 := ht.out
          rw [List.take_of_length_le (by omega), List.take_of_length_le (by have := HL.out; omega)] at h3
          rw [← HS.out]
          exact decide_eq_true h3
        clear ht
        go_wp2_with fail
        go_ret
        exact ⟨by rw [HF.out]; rfl, hb.out⟩
  · have hl2 : ((l.length : Int) != (m.length : Int)) = true := by simp; omega
    have E : Hid (decide (l = m) = false) := decide_eq_false fun e => hlen (by rw [e])
    clear hlen h1 h2
    go_enter Tryd.func34, Tryd.ntmps34
    go_wp2_with fail
    go_ret
    exact ⟨by rw [E.out]; rfl, Below.refl _ _⟩
set_option maxRecDepth 100000 in
set_option maxHeartbeats 4000000 in
theorem refInts_any (l m : List Int) (A B : Option Addr) (ca cb : Nat) (w : World) (hl : l.length ≤ 140737488351232) (hm : m.length ≤ 140737488351232) (h1 : Rs w A (ints l)) (h2 : Rs w B (ints m)) :
    Calls Tryd.prog 39 #[.slice A l.length ca, .slice B m.length cb] w (Ret w (.bool (decide (l = m)))) := by
  have hm2 := hm
  by_cases hlen : l.length = m.length
  · have hl2 : ((l.length : Int) != (m.length : Int)) = false := by simp [hlen]
    have HL := Lib.hid hlen
    have H1 := Lib.hid h1
    have H2 := Lib.hid h2
    obtain ⟨S, hS⟩ : ∃ S, decide (l = m) = S := ⟨_, rfl⟩
    rw [hS]
    have HS := Lib.hid hS
    clear hlen h1 h2 hS
    go_enter Tryd.func39, Tryd.ntmps39
    go_wp2_with fail
    go_loopw [13] (fun i wr => ∃ k : Nat, k ≤ l.length ∧ i = .int .i64 k ∧ Hid (Below w.heap.size w wr) ∧ Hid (l.take k = m.take k)) (fun i _ => l.length - (intOf i).toNat)
    case atStart => exact ⟨0, Nat.zero_le _, rfl, Below.refl _ _, by simp [Hid]⟩
    case round =>
      obtain ⟨k, hk, rfl, hb, ht⟩ := hrel
      by_cases hlt : k < l.length
      · have hlt2 : k < m.length := by have := HL.out; omega
        obtain ⟨x, hx⟩ : ∃ x, l[k]? = some x := ⟨_, List.getElem?_eq_getElem hlt⟩
        obtain ⟨y, hy⟩ : ∃ y, m[k]? = some y := ⟨_, List.getElem?_eq_getElem hlt2⟩
        obtain ⟨b1, o1, rfl, c1⟩ := rs_ri (H1.out.later hb.out) k x hx
        obtain ⟨b2, o2, rfl, c2⟩ := rs_ri (H2.out.later hb.out) k y hy
        have HN : Hid (x = y → l.take (k + 1) = m.take (k + 1)) := fun e => by
          rw [List.take_add_one, List.take_add_one, hx, hy, ht.out, e]
        have HD : Hid (x ≠ y → S = false) := fun e => by
          rw [← HS.out]
          refine decide_eq_false fun e2 => e ?_
          rw [e2] at hx
          rw [hx] at hy
          exact Option.some.inj hy
        clear hx hy ht
        by_cases hxy : x = y
        · have HT : Hid (l.take (k + 1) = m.take (k + 1)) := HN.out hxy
          subst hxy
          clear HN HD
          go_wp2_with fail
          go_quiet (fail)
          go_wp2_with fail
          go_roundw
          case rel => exact ⟨k + 1, by omega, by go_num, by first | exact hb | exact below_drewN1 hb.out _, HT⟩
          case measure => simp [intOf]; omega
        · have HF : Hid (S = false) := HD.out hxy
          have hxy2 : (x != y) = true := by simpa using hxy
          clear HN HD
          go_wp2_with fail
          go_quiet (fail)
          go_wp2_with fail
          go_ret
          exact ⟨by rw [HF.out]; rfl, by first | exact hb.out | exact below_drewN1 hb.out _⟩
      · have HF : Hid (S = true) := by
          have h3 := ht.out
          rw [List.take_of_length_le (by omega), List.take_of_length_le (by have := HL.out; omega)] at h3
          rw [← HS.out]
          exact decide_eq_true h3
        clear ht
        go_wp2_with fail
        go_ret
        exact ⟨by rw [HF.out]; rfl, hb.out⟩
  · have hl2 : ((l.length : Int) != (m.length : Int)) = true := by simp; omega
    have E : Hid (decide (l = m) = false) := decide_eq_false fun e => hlen (by rw [e])
    clear hlen h1 h2
    go_enter Tryd.func39, Tryd.ntmps39
    go_wp2_with fail
    go_ret
    exact ⟨by rw [E.out]; rfl, Below.refl _ _⟩
set_option maxRecDepth 100000 in
set_option maxHeartbeats 4000000 in
theorem equalCh_any (l m : List (Int × Int)) (A B : Option Addr) (ca cb : Nat) (w : World) (hl : l.length ≤ 140737488351232) (hm : m.length ≤ 140737488351232) (h1 : Rs w A (ccells l)) (h2 : Rs w B (ccells m)) :
    Calls Tryd.prog 35 #[.slice A l.length ca, .slice B m.length cb] w (Ret w (.bool (decide (l = m)))) := by
  have hm2 := hm
  by_cases hlen : l.length = m.length
  · have hl2 : ((l.length : Int) != (m.length : Int)) = false := by simp [hlen]
    have HL := Lib.hid hlen
    have H1 := Lib.hid h1
    have H2 := Lib.hid h2
    obtain ⟨S, hS⟩ : ∃ S, decide (l = m) = S := ⟨_, rfl⟩
    rw [hS]
    have HS := Lib.hid hS
    clear hlen h1 h2 hS
    go_enter Tryd.func35, Tryd.ntmps35
    go_wp2_with fail
    go_loopw [13] (fun i wr => ∃ k : Nat, k ≤ l.length ∧ i = .int .i64 k ∧ Hid (Below w.heap.size w wr) ∧ Hid (l.take k = m.take k)) (fun i _ => l.length - (intOf i).toNat)
    case atStart => exact ⟨0, Nat.zero_le _, rfl, Below.refl _ _, by simp [Hid]⟩
    case round =>
      obtain ⟨k, hk, rfl, hb, ht⟩ := hrel
      by_cases hlt : k < l.length
      · have hlt2 : k < m.length := by have := HL.out; omega
        obtain ⟨x, hx⟩ : ∃ x, l[k]? = some x := ⟨_, List.getElem?_eq_getElem hlt⟩
        obtain ⟨y, hy⟩ : ∃ y, m[k]? = some y := ⟨_, List.getElem?_eq_getElem hlt2⟩
        obtain ⟨b1, o1, rfl, c1, c2⟩ := ch_at (H1.out.later hb.out) k x hx
        obtain ⟨b2, o2, rfl, d1, d2⟩ := ch_at (H2.out.later hb.out) k y hy
        have HN : Hid (x = y → l.take (k + 1) = m.take (k + 1)) := fun e => by
          rw [List.take_add_one, List.take_add_one, hx, hy, ht.out, e]
        have HD : Hid (x ≠ y → S = false) := fun e => by
          rw [← HS.out]
          refine decide_eq_false fun e2 => e ?_
          rw [e2] at hx
          rw [hx] at hy
          exact Option.some.inj hy
        clear hx hy ht
        obtain ⟨x0, x1⟩ := x
        obtain ⟨y0, y1⟩ := y
        dsimp only at c1 c2 d1 d2
        by_cases e0 : x0 = y0
        rotate_left
        · have HF : Hid (S = false) := HD.out fun e => e0 (by injection e)
          have q0 : (x0 == y0) = false := by simpa using e0
          have p0 : (x0 != y0) = true := by simpa using e0
          clear HN HD
          go_wp2_with fail
          go_quiet (fail)
          go_wp2_with fail
          go_ret
          exact ⟨by rw [HF.out]; rfl, by first | exact hb.out | exact below_drewN1 hb.out _⟩
        subst e0
        by_cases e1 : x1 = y1
        rotate_left
        · have HF : Hid (S = false) := HD.out fun e => e1 (by injection e)
          have q1 : (x1 == y1) = false := by simpa using e1
          have p1 : (x1 != y1) = true := by simpa using e1
          clear HN HD
          go_wp2_with fail
          go_quiet (fail)
          go_wp2_with fail
          go_ret
          exact ⟨by rw [HF.out]; rfl, by first | exact hb.out | exact below_drewN1 hb.out _⟩
        subst e1
        have HT : Hid (l.take (k + 1) = m.take (k + 1)) := HN.out rfl
        clear HN HD
        go_wp2_with fail
        go_quiet (fail)
        go_wp2_with fail
        go_roundw
        case rel => exact ⟨k + 1, by omega, by go_num, by first | exact hb | exact below_drewN1 hb.out _, HT⟩
        case measure => simp [intOf]; omega
      · have HF : Hid (S = true) := by
          have h3 := ht.out
          rw [List.take_of_length_le (by omega), List.take_of_length_le (by have := HL.out; omega)] at h3
          rw [← HS.out]
          exact decide_eq_true h3
        clear ht
        go_wp2_with fail
        go_ret
        exact ⟨by rw [HF.out]; rfl, hb.out⟩
  · have hl2 : ((l.length : Int) != (m.length : Int)) = true := by simp; omega
    have E : Hid (decide (l = m) = false) := decide_eq_false fun e => hlen (by rw [e])
    clear hlen h1 h2
    go_enter Tryd.func35, Tryd.ntmps35
    go_wp2_with fail
    go_ret
    exact ⟨by rw [E.out]; rfl, Below.refl _ _⟩
set_option maxRecDepth 100000 in
set_option maxHeartbeats 4000000 in
theorem equalIns_any (l m : List Ins) (A B : Option Addr) (ca cb : Nat) (w : World) (hl : l.length ≤ 140737488351232) (hm : m.length ≤ 140737488351232) (h1 : Rs w A (icells l)) (h2 : Rs w B (icells m)) :
    Calls Tryd.prog 36 #[.slice A l.length ca, .slice B m.length cb] w (Ret w (.bool (decide (l = m)))) := by
  have hm2 := hm
  by_cases hlen : l.length = m.length
  · have hl2 : ((l.length : Int) != (m.length : Int)) = false := by simp [hlen]
    have HL := Lib.hid hlen
    have H1 := Lib.hid h1
    have H2 := Lib.hid h2
    obtain ⟨S, hS⟩ : ∃ S, decide (l = m) = S := ⟨_, rfl⟩
    rw [hS]
    have HS := Lib.hid hS
    clear hlen h1 h2 hS
    go_enter Tryd.func36, Tryd.ntmps36
    go_wp2_with fail
    go_loopw [13] (fun i wr => ∃ k : Nat, k ≤ l.length ∧ i = .int .i64 k ∧ Hid (Below w.heap.size w wr) ∧ Hid (l.take k = m.take k)) (fun i _ => l.length - (intOf i).toNat)
    case atStart => exact ⟨0, Nat.zero_le _, rfl, Below.refl _ _, by simp [Hid]⟩
    case round =>
      obtain ⟨k, hk, rfl, hb, ht⟩ := hrel
      by_cases hlt : k < l.length
      · have hlt2 : k < m.length := by have := HL.out; omega
        obtain ⟨x, hx⟩ : ∃ x, l[k]? = some x := ⟨_, List.getElem?_eq_getElem hlt⟩
        obtain ⟨y, hy⟩ : ∃ y, m[k]? = some y := ⟨_, List.getElem?_eq_getElem hlt2⟩
        obtain ⟨b1, o1, rfl, c1, c2, c3, c4, c5⟩ := ins_at (H1.out.later hb.out) k x hx
        obtain ⟨b2, o2, rfl, d1, d2, d3, d4, d5⟩ := ins_at (H2.out.later hb.out) k y hy
        have HN : Hid (x = y → l.take (k + 1) = m.take (k + 1)) := fun e => by
          rw [List.take_add_one, List.take_add_one, hx, hy, ht.out, e]
        have HD : Hid (x ≠ y → S = false) := fun e => by
          rw [← HS.out]
          refine decide_eq_false fun e2 => e ?_
          rw [e2] at hx
          rw [hx] at hy
          exact Option.some.inj hy
        clear hx hy ht
        obtain ⟨x0, x1, x2, x3, x4⟩ := x
        obtain ⟨y0, y1, y2, y3, y4⟩ := y
        dsimp only at c1 c2 c3 c4 c5 d1 d2 d3 d4 d5
        by_cases e0 : x0 = y0
        rotate_left
        · have HF : Hid (S = false) := HD.out fun e => e0 (by injection e)
          have q0 : (x0 == y0) = false := by simpa using e0
          have p0 : (x0 != y0) = true := by simpa using e0
          clear HN HD
          go_wp2_with fail
          go_quiet (fail)
          go_wp2_with fail
          go_ret
          exact ⟨by rw [HF.out]; rfl, by first | exact hb.out | exact below_drewN1 hb.out _⟩
        subst e0
        by_cases e1 : x1 = y1
        rotate_left
        · have HF : Hid (S = false) := HD.out fun e => e1 (by injection e)
          have q1 : (x1 == y1) = false := by simpa using e1
          have p1 : (x1 != y1) = true := by simpa using e1
          clear HN HD
          go_wp2_with fail
          go_quiet (fail)
          go_wp2_with fail
          go_ret
          exact ⟨by rw [HF.out]; rfl, by first | exact hb.out | exact below_drewN1 hb.out _⟩
        subst e1
        by_cases e2 : x2 = y2
        rotate_left
        · have HF : Hid (S = false) := HD.out fun e => e2 (by injection e)
          have q2 : (x2 == y2) = false := by simpa using e2
          have p2 : (x2 != y2) = true := by simpa using e2
          clear HN HD
          go_wp2_with fail
          go_quiet (fail)
          go_wp2_with fail
          go_ret
          exact ⟨by rw [HF.out]; rfl, by first | exact hb.out | exact below_drewN1 hb.out _⟩
        subst e2
        by_cases e3 : x3 = y3
        rotate_left
        · have HF : Hid (S = false) := HD.out fun e => e3 (by injection e)
          have q3 : (x3 == y3) = false := by simpa using e3
          have p3 : (x3 != y3) = true := by simpa using e3
          clear HN HD
          go_wp2_with fail
          go_quiet (fail)
          go_wp2_with fail
          go_ret
          exact ⟨by rw [HF.out]; rfl, by first | exact hb.out | exact below_drewN1 hb.out _⟩
        subst e3
        by_cases e4 : x4 = y4
        rotate_left
        · have HF : Hid (S = false) := HD.out fun e => e4 (by injection e)
          have q4 : (x4 == y4) = false := by simpa using e4
          have p4 : (x4 != y4) = true := by simpa using e4
          clear HN HD
          go_wp2_with fail
          go_quiet (fail)
          go_wp2_with fail
          go_ret
          exact ⟨by rw [HF.out]; rfl, by first | exact hb.out | exact below_drewN1 hb.out _⟩
        subst e4
        have HT : Hid (l.take (k + 1) = m.take (k + 1)) := HN.out rfl
        clear HN HD
        go_wp2_with fail
        go_quiet (fail)
        go_wp2_with fail
        go_roundw
        case rel => exact ⟨k + 1, by omega, by go_num, by first | exact hb | exact below_drewN1 hb.out _, HT⟩
        case measure => simp [intOf]; omega
      · have HF : Hid (S = true) := by
          have h3 := ht.out
          rw [List.take_of_length_le (by omega), List.take_of_length_le (by have := HL.out; omega)] at h3
          rw [← HS.out]
          exact decide_eq_true h3
        clear ht
        go_wp2_with fail
        go_ret
        exact ⟨by rw [HF.out]; rfl, hb.out⟩
  · have hl2 : ((l.length : Int) != (m.length : Int)) = true := by simp; omega
    have E : Hid (decide (l = m) = false) := decide_eq_false fun e => hlen (by rw [e])
    clear hlen h1 h2
    go_enter Tryd.func36, Tryd.ntmps36
    go_wp2_with fail
    go_ret
    exact ⟨by rw [E.out]; rfl, Below.refl _ _⟩
end Go.Proofs.YtbpbimkadiobfaaDoor
