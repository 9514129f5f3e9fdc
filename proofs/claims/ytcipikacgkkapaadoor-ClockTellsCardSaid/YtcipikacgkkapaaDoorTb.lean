/-
  The walk of the document's Join.
-/
import Derived.Test.YtcipikacgkkapaaDoorTa
namespace Go.Proofs.YtcipikacgkkapaaDoor
open Go.RowKit Go.Stk
attribute [local go_sem] max2_int max_two

theorem join_eq (a b : List Int) (n : Nat) (hn : n = max a.length b.length) : joinL ((List.range n).map fun (i : Nat) => max (getL a i) (getL b i)) [] = joinL a b := by
  refine joinL_ext fun g => ?_
  rw [getL_nil]
  rcases intSplit g 0 with hg | hg
  · rw [getL_neg _ _ hg, getL_neg _ _ hg, getL_neg _ _ hg]
  · obtain ⟨k, rfl⟩ := Int.eq_ofNat_of_zero_le hg
    have h1 := getL_nonneg a k
    have h2 := getL_nonneg b k
    rw [getL_nat]
    by_cases h : k < n
    · simp [h]; omega
    · have e1 : getL a k = 0 := by rw [getL_nat]; simp [List.getElem?_eq_none (show a.length ≤ k by omega)]
      have e2 : getL b k = 0 := by rw [getL_nat]; simp [List.getElem?_eq_none (show b.length ≤ k by omega)]
      rw [e1, e2, List.getD_eq_getElem?_getD, List.getElem?_eq_none (by simp; omega)]
      rfl

set_option maxHeartbeats 1000000 in
theorem rjoin_any (a b : List Int) (A B : Option Addr) (ca cb : Nat) (w : World) (ha : RI w A a) (hb : RI w B b) (hla : a.length ≤ 1000000000) (hlb : b.length ≤ 1000000000) :
    Calls Tryd.prog 26 #[.slice A a.length ca, .slice B b.length cb] w (OwnRet w.heap.size w (joinL a b)) := by
  have hal := ha.len
  have hbl := hb.len
  obtain ⟨n, hn⟩ : ∃ n : Nat, n = max a.length b.length := ⟨_, rfl⟩
  have hlon := longer_any a b A B ca cb w hal hbl
  rw [← hn] at hlon
  have hnb : n ≤ 1000000000 := by omega
  have HJ := Lib.hid (join_eq a b n hn)
  clear hn
  have hmk := make_one (P := Tryd.prog) 22 3 (.int .i64 0) 8 Tryd.underlying22 info3 rfl (by decide) n (by omega)
  go_enter Tryd.func26, Tryd.ntmps26
  go_wp2_with fail
  refine hlon.mono ?_
  rintro e w' ⟨rfl, rfl⟩
  go_wp2_with fail
  have ho := own_zeros w n (by omega)
  have hbl : Below w.heap.size w (w.alloc (.cells (madeCells #[.int .i64 0] n) 3)) := (Below.refl _ _).alloc (Nat.le_refl _) _
  rw [← fill_zero (fun i => max (getL a i) (getL b i))] at ho
  clear hmk hlon
  go_loopw [13] (fun i wr => ∃ k : Nat, k ≤ n ∧ i = .int .i64 k ∧ Own wr w.heap.size (.slice (some ⟨w.heap.size, 0, none⟩) n n) (fill (fun i => max (getL a i) (getL b i)) k n) ∧ Below w.heap.size w wr) (fun i _ => n - (intOf i).toNat)
  case atStart => exact ⟨0, Nat.zero_le _, rfl, ho, hbl⟩
  case round =>
    clear ho hbl
    obtain ⟨k, hk, rfl, ho, hbw⟩ := hrel
    by_cases hlt : k < n
    · have ho' := ho
      rw [show Value.slice (some ⟨w.heap.size, 0, none⟩) n n = .slice (some ⟨w.heap.size, 0, none⟩) (fill (fun i => max (getL a i) (getL b i)) k n).length n by rw [fill_len]] at ho'
      have hcell := ho'.cell k (by rw [fill_len]; exact hlt)
      have hfree := ho'.free k
      have hset := ho'.set k (getL a k)
      have hset2 := ho'.set k (max (getL a k) (getL b k))
      rw [fill_len, fill_succ (fun i => max (getL a i) (getL b i)) k n hlt] at hset2
      have hset3 := hset
      rw [show Value.slice (some ⟨w.heap.size, 0, none⟩) (fill (fun i => max (getL a i) (getL b i)) k n).length n = .slice (some ⟨w.heap.size, 0, none⟩) ((fill (fun i => max (getL a i) (getL b i)) k n).set k (getL a k)).length n by rw [List.length_set]] at hset3
      have hset4 := hset3.set k (getL b k)
      have hcell2 := hset3.cell k (by rw [List.length_set, fill_len]; exact hlt)
      have hfree2 := hset3.free k
      rw [List.length_set, fill_len, List.set_set] at hset4
      have ex : ((fill (fun i => max (getL a i) (getL b i)) k n).set k (getL a k)).getD k 0 = getL a k := by simp [fill_len, hlt]
      rw [ex] at hcell2
      obtain ⟨W, hW⟩ : ∃ W, W = wr.setCell ⟨w.heap.size, k, none⟩ (.int .i64 (getL a k)) := ⟨_, rfl⟩
      have hbW : Below w.heap.size w W := by rw [hW]; exact hbw.setCell (Nat.le_refl _) _
      rw [← hW] at hcell2 hfree2 hset4
      have HS2 := Lib.hid hset2
      have HS4 := Lib.hid hset4
      have HO := Lib.hid hset
      rw [← hW] at HO
      clear hset2 hset4 hset hset3 ho ho' ex
      go_wp2_with fail
      refine (at_any a A ca k wr (ha.later hbw)).mono ?_
      rintro e w' ⟨rfl, rfl⟩
      go_wp2_with fail
      rw [← hW]
      clear hW hcell hfree
      have HR := Lib.hid (fun m => (hb.later hbW).later (below_drewN (Below.refl _ _) m) : ∀ m, RI (W.drewN m) B b)
      go_quiet ((go_at_call 20; exact Calls.quiet_of_same ((at_any b B cb k _ (HR.out _)).mono fun _ _ ⟨h, h2⟩ => ⟨h, h2.symm⟩)))
      by_cases hgt : getL a k < getL b k
      · have em : max (getL a k) (getL b k) = getL b k := by omega
        have HS : Hid (Own (W.setCell ⟨w.heap.size, k, none⟩ (.int .i64 (getL b k))) w.heap.size (.slice (some ⟨w.heap.size, 0, none⟩) n n) (fill (fun i => max (getL a i) (getL b i)) (k + 1) n)) := by
          have h1 := HS4.out
          rw [← em, fill_succ (fun i => max (getL a i) (getL b i)) k n hlt, em] at h1
          exact h1
        clear em
        go_wp2_with fail
        refine (at_any b B cb k _ (HR.out _)).mono ?_
        rintro e w' ⟨rfl, rfl⟩
        go_wp2_with fail
        go_roundw
        case rel => exact ⟨k + 1, by omega, by go_num, HS.out, (below_drewN hbW _).setCell (Nat.le_refl _) _⟩
        case measure => simp [intOf]; omega
      · have em : max (getL a k) (getL b k) = getL a k := by omega
        have HS : Hid (Own W w.heap.size (.slice (some ⟨w.heap.size, 0, none⟩) n n) (fill (fun i => max (getL a i) (getL b i)) (k + 1) n)) := by
          have h1 := HO.out
          rw [← em, fill_succ (fun i => max (getL a i) (getL b i)) k n hlt] at h1
          rw [fill_len] at h1
          exact h1
        clear em
        go_wp2_with fail
        go_roundw
        case rel => exact ⟨k + 1, by omega, by go_num, HS.out, below_drewN hbW _⟩
        case measure => simp [intOf]; omega
    · obtain rfl : k = n := by omega
      go_wp2_with fail
      rw [fill_all] at ho
      obtain ⟨A', c', e', hc', r'⟩ := ho.ri
      have hj := rshort_any _ A' c' wr r' (by simp; omega)
      rw [← e'] at hj
      rw [HJ.out] at hj
      refine hj.mono ?_
      rintro e w2 ⟨v, rfl, ho2, hb2⟩
      go_wp2_with fail
      go_ret
      exact ⟨_, rfl, own_base ho2 hbw.size, hbw.trans (hb2.mono hbw.size)⟩
end Go.Proofs.YtcipikacgkkapaaDoor
