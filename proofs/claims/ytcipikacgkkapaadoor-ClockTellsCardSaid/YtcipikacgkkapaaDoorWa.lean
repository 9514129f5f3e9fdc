/-
  The walks of the clock's functions: Get, merge, Join, Short, slices.Equal: what each returns, as lists.
-/
import Derived.Test.YtcipikacgkkapaaDoorProg
import Derived.Test.YtcipikacgkkapaaDoorBase
namespace Go.Proofs.YtcipikacgkkapaaDoor
open Go.RowKit Go.Stk
attribute [local go_sem] max2_int max_two

theorem info3 : (Tryd.prog.info? 3).map (fun i => (i.zero, i.size, i.bytes)) = some (some (.int .i64 0), 1, 8) := by kernel_rfl

def getL (l : List Int) (g : Int) : Int := if g < 0 then 0 else if g ≥ l.length then 0 else max (l.getD g.toNat 0) 0

theorem get_any (l : List Int) (A : Option Addr) (c : Nat) (g : Int) (w : World) (h : RI w A l) :
    Calls Tryd.prog 12 #[.slice A l.length c, .int .i64 g] w fun e w' => e = .returned (.int .i64 (getL l g)) ∧ w = w' := by
  have hl := h.len
  by_cases h0 : g < 0
  · go_enter Tryd.func12, Tryd.ntmps12
    go_wp2
    go_ret
    exact ⟨by simp [getL, h0], rfl⟩
  · by_cases h1 : (l.length : Int) ≤ g
    · go_enter Tryd.func12, Tryd.ntmps12
      go_wp2
      go_ret
      exact ⟨by simp [getL, h1], rfl⟩
    · obtain ⟨k, rfl⟩ := Int.eq_ofNat_of_zero_le (show 0 ≤ g by omega)
      have hk : k < l.length := by omega
      obtain ⟨b, off, rfl, hcell⟩ := h.at k hk
      obtain ⟨x, hx⟩ : ∃ x, l.getD k 0 = x := ⟨_, rfl⟩
      rw [hx] at hcell
      have HX := Lib.hid hx
      clear hx h
      go_enter Tryd.func12, Tryd.ntmps12
      go_wp2
      go_ret
      refine ⟨?_, rfl⟩
      have := HX.out
      have h2 : ¬ (l.length ≤ k) := by omega
      simp only [getL]
      rw [if_neg (by omega), if_neg (by omega)]
      simp only [Int.toNat_natCast, this]
      rfl

theorem mk_any (x y : Int) (w : World) : Calls Tryd.prog 31 #[.int .i64 x, .int .i64 y] w fun e w' => e = .returned (.int .i64 (max x y)) ∧ w = w' := by
  go_enter Tryd.func31, Tryd.ntmps31
  go_wp2
  go_ret
  exact ⟨rfl, rfl⟩


def joinRaw (xs ys : List Int) (k : Nat) : List Int := (List.range k).map fun (i : Nat) => max (getL xs i) (getL ys i)
theorem joinRaw_succ (xs ys : List Int) (k : Nat) : joinRaw xs ys (k+1) = joinRaw xs ys k ++ [max (getL xs k) (getL ys k)] := by simp [joinRaw, List.range_succ]
theorem joinRaw_len (xs ys : List Int) (k : Nat) : (joinRaw xs ys k).length = k := by simp [joinRaw]
/-- Zeros at the end struck. -/
def trim (l : List Int) : List Int := (l.reverse.dropWhile (· == 0)).reverse

def Own (w : World) (B : Nat) (v : Value) (xs : List Int) : Prop := w.ownsRow B 3 1 v xs.length (ints xs)

def OwnRet (B : Nat) (w : World) (l : List Int) (e : Ending) (w' : World) : Prop := ∃ v, e = .returned v ∧ Own w' B v l ∧ Below B w w'

def lenOf : Value → Nat | .slice _ n _ => n | _ => 0
theorem snoc_of {α : Type} (l : List α) (h : 0 < l.length) : ∃ m x, l = m ++ [x] := by
  rcases List.eq_nil_or_concat l with rfl | ⟨m, x, e⟩
  · simp at h
  · exact ⟨m, x, by simpa using e⟩
theorem trim_nil : trim [] = [] := rfl
theorem trim_zero (l : List Int) (h : 0 < l.length) (h0 : l.getD (l.length - 1) 0 = 0) : trim (l.take (l.length - 1)) = trim l := by
  obtain ⟨m, x, rfl⟩ : ∃ m x, l = m ++ [x] := snoc_of l h
  simp at h0 ⊢
  subst h0
  simp [trim]
theorem trim_keep (l : List Int) (h : 0 < l.length) (h0 : ¬ l.getD (l.length - 1) 0 = 0) : trim l = l := by
  obtain ⟨m, x, rfl⟩ : ∃ m x, l = m ++ [x] := snoc_of l h
  simp at h0
  simp [trim, h0]
theorem Own.pop {w : World} {B : Nat} {A : Option Addr} {c : Nat} {l : List Int} (h : Own w B (.slice A l.length c) l) (hl : 0 < l.length) : Own w B (.slice A (l.length - 1) c) (l.take (l.length - 1)) := by
  obtain ⟨m, x, rfl⟩ : ∃ m x, l = m ++ [x] := snoc_of l hl
  obtain ⟨g, cap, e, _⟩ := h.form (by simp)
  injection e with e1 e2 e3
  subst e1; subst e3
  have h' : w.ownsRow B 3 1 (.slice (some ⟨g, 0, none⟩) (m.length + 1) c) (m.length + 1) (ints m ++ ints [x]) := by simpa [Own, ints] using h
  have := ownsRow_pop (by simp) h'
  simpa [Own] using this

theorem merge_any (xs ys : List Int) (A B : Option Addr) (ca cb : Nat) (w : World) (hx : RI w A xs) (hy : RI w B ys) (hxs : xs.length ≤ 1000000000) (hys : ys.length ≤ 1000000000) :
    Calls Tryd.prog 30 #[.slice A xs.length ca, .slice B ys.length cb, .func (.func 31) #[] #[]] w (OwnRet w.heap.size w (trim (joinRaw xs ys (max xs.length ys.length)))) := by
  obtain ⟨i0, hi, hz0, hz1, hz2⟩ := info_parts info3
  obtain ⟨n, hn⟩ : ∃ n : Nat, n = max xs.length ys.length := ⟨_, rfl⟩
  have hni : max (xs.length : Int) (ys.length : Int) = (n : Int) := by omega
  have hnb : n ≤ 1000000000 := by omega
  rw [← hn]
  have HN := Lib.hid hn
  clear hn
  go_enter Tryd.func30, Tryd.ntmps30
  go_wp2_with fail
  clear hni
  go_loopw [7, 14] (fun v i wr => ∃ k : Nat, k ≤ n ∧ i = .int .i64 k ∧ Own wr w.heap.size v (joinRaw xs ys k) ∧ Below w.heap.size w wr) (fun _ i _ => n - (intOf i).toNat)
  case atStart => exact ⟨0, Nat.zero_le _, rfl, World.ownsRow_nil _ _ _ _, Below.refl _ _⟩
  case round =>
    obtain ⟨k, hk, rfl, hown, hb⟩ := hrel
    have hx' := hx.later hb
    have hy' := hy.later hb
    by_cases hlt : k < n
    · go_wp2_with fail
      refine (get_any xs A ca (k : Int) wr hx').mono ?_
      rintro e w' ⟨rfl, rfl⟩
      go_wp2_with fail
      refine (get_any ys B cb (k : Int) wr hy').mono ?_
      rintro e w' ⟨rfl, rfl⟩
      go_wp2_with fail
      refine (mk_any _ _ wr).mono ?_
      rintro e w' ⟨rfl, rfl⟩
      go_wp2_with (first | (at_builtin; refine append_one (w0 := w) w.heap.size rfl _ _ 22 3 (.int .i64 0) 8 rfl Tryd.underlying22 info3 rfl (by decide) u7 (ints (joinRaw xs ys k)) (.int .i64 _) rfl rfl rfl ?c1 ?c2 ?c3 ?c4 ?_))
      case c1 => simpa [Own] using hown
      case c2 => exact hb
      case c3 => exact hb.size
      case c4 => simp [joinRaw_len]; omega
      intro v1 w1 hown1 hb1 _
      have R : Own w1 w.heap.size v1 (joinRaw xs ys (k+1)) := by rw [joinRaw_succ]; simpa [Own, ints] using hown1
      clear hown1
      go_wp2_with fail
      go_roundw
      case rel => exact ⟨k + 1, by omega, by go_num, R, hb1⟩
      case measure => simp [intOf]; omega
    · obtain rfl : k = n := by omega
      go_wp2_with fail
      go_loop [7] (fun v => ∃ l, Own wr w.heap.size v l ∧ l.length ≤ 1000000000 ∧ Hid (trim l = trim (joinRaw xs ys k))) (fun v => lenOf v)
      case atStart => exact ⟨_, hown, by rw [joinRaw_len]; exact hnb, rfl⟩
      case round =>
        clear hown
        obtain ⟨l, hown, hln, ht⟩ := hrel
        obtain ⟨A', c', rfl, hc', hr⟩ := own_ri hown
        by_cases hl0 : 0 < l.length
        · obtain ⟨b, off, rfl, hcell⟩ := hr.at (l.length - 1) (by omega)
          obtain ⟨y, hy0⟩ : ∃ y, l.getD (l.length - 1) 0 = y := ⟨_, rfl⟩
          rw [hy0] at hcell
          by_cases hyz : y = 0
          · subst hyz
            have HP := Lib.hid (hown.pop hl0)
            have HY := Lib.hid (trim_zero l hl0 hy0)
            clear hy0 hown hr
            go_wp2_with fail
            go_round
            case rel => exact ⟨_, HP.out, by simp; omega, HY.out.trans ht⟩
            case measure => simp [lenOf]; omega
          · have HY := Lib.hid (trim_keep l hl0 (by rw [hy0]; exact hyz))
            clear hy0
            have hyb : (y == 0) = false := by simpa using hyz
            go_wp2_with fail
            go_ret
            exact ⟨_, rfl, by rw [← ht.out, HY.out]; exact hown, hb⟩
        · obtain rfl : l = [] := by cases l; rfl; simp at hl0
          go_wp2_with fail
          go_ret
          exact ⟨_, rfl, by rw [← ht.out, trim_nil]; exact hown, hb⟩

def joinL (xs ys : List Int) : List Int := trim (joinRaw xs ys (max xs.length ys.length))

theorem join_any (xs ys : List Int) (A B : Option Addr) (ca cb : Nat) (w : World) (hx : RI w A xs) (hy : RI w B ys) (hxs : xs.length ≤ 1000000000) (hys : ys.length ≤ 1000000000) :
    Calls Tryd.prog 13 #[.slice A xs.length ca, .slice B ys.length cb] w (OwnRet w.heap.size w (joinL xs ys)) := by
  go_enter Tryd.func13, Tryd.ntmps13
  go_wp2_with fail
  refine (merge_any xs ys A B ca cb w hx hy hxs hys).mono ?_
  rintro e w' ⟨v, rfl, ho, hb⟩
  go_wp2_with fail
  go_ret
  exact ⟨_, rfl, ho, hb⟩

theorem ri_nil (w : World) (A : Option Addr) : RI w A [] := ⟨by simp [ints], fun h => by simp [ints] at h⟩

theorem short_any (xs : List Int) (A : Option Addr) (ca : Nat) (w : World) (hx : RI w A xs) (hxs : xs.length ≤ 1000000000) :
    Calls Tryd.prog 17 #[.slice A xs.length ca] w (OwnRet w.heap.size w (joinL xs [])) := by
  go_enter Tryd.func17, Tryd.ntmps17
  go_wp2_with fail
  refine (join_any xs [] A none ca 0 w hx (ri_nil _ _) hxs (by simp)).mono ?_
  rintro e w' ⟨v, rfl, ho, hb⟩
  go_wp2_with fail
  go_ret
  exact ⟨_, rfl, ho, hb⟩

theorem equal_any (xs ys : List Int) (A B : Option Addr) (ca cb : Nat) (w : World) (hx : RI w A xs) (hy : RI w B ys) :
    Calls Tryd.prog 32 #[.slice A xs.length ca, .slice B ys.length cb] w fun e w' => e = .returned (.bool (decide (xs = ys))) ∧ Below w.heap.size w w' := by
  have hxl := hx.len
  have hyl := hy.len
  by_cases hlen : xs.length = ys.length
  · have hl2 : ((xs.length : Int) != (ys.length : Int)) = false := by simp [hlen]
    have HL := Lib.hid hlen
    clear hlen
    go_enter Tryd.func32, Tryd.ntmps32
    go_wp2_with fail
    go_loopw [13] (fun i wr => ∃ k : Nat, k ≤ xs.length ∧ i = .int .i64 k ∧ Below w.heap.size w wr ∧ Hid (xs.take k = ys.take k)) (fun i _ => xs.length - (intOf i).toNat)
    case atStart => exact ⟨0, Nat.zero_le _, rfl, Below.refl _ _, by simp [Hid]⟩
    case round =>
      obtain ⟨k, hk, rfl, hb, ht⟩ := hrel
      by_cases hlt : k < xs.length
      · have hlt2 : k < ys.length := by have := HL.out; omega
        obtain ⟨b1, o1, rfl, c1⟩ := (hx.later hb).at k hlt
        obtain ⟨b2, o2, rfl, c2⟩ := (hy.later hb).at k hlt2
        obtain ⟨x, ex⟩ : ∃ x, xs.getD k 0 = x := ⟨_, rfl⟩
        obtain ⟨y, ey⟩ : ∃ y, ys.getD k 0 = y := ⟨_, rfl⟩
        rw [ex] at c1
        rw [ey] at c2
        have EX := Lib.hid ex
        have EY := Lib.hid ey
        clear ex ey hx hy
        by_cases hxy : x = y
        · subst hxy
          go_wp2_with fail
          go_quiet (fail)
          go_wp2_with fail
          have HT : Hid (xs.take (k+1) = ys.take (k+1)) := by
            show _ = _
            rw [List.take_succ_eq_append_getElem hlt, List.take_succ_eq_append_getElem hlt2, ht.out]
            have h1 := EX.out; have h2 := EY.out
            simp [hlt, hlt2] at h1 h2
            rw [h1, h2]
          go_roundw
          case rel => exact ⟨k+1, by omega, by go_num, by first | exact hb | exact below_drewN hb _, HT⟩
          case measure => simp [intOf]; omega
        · have hxy2 : (x != y) = true := by simpa using hxy
          go_wp2_with fail
          go_quiet (fail)
          go_wp2_with fail
          go_ret
          refine ⟨?_, below_drewN hb _⟩
          have h1 := EX.out; have h2 := EY.out
          have : ¬ xs = ys := fun e => hxy (by rw [← h1, ← h2, e])
          simp [this]
      · go_wp2_with fail
        go_ret
        refine ⟨?_, hb⟩
        have h1 := ht.out
        have h2 := HL.out
        rw [List.take_of_length_le (by omega), List.take_of_length_le (by omega)] at h1
        simp [h1]
  · have hl2 : ((xs.length : Int) != (ys.length : Int)) = true := by simp; omega
    go_enter Tryd.func32, Tryd.ntmps32
    go_wp2_with fail
    go_ret
    exact ⟨by simp; intro h; exact hlen (by rw [h]), Below.refl _ _⟩
end Go.Proofs.YtcipikacgkkapaaDoor
