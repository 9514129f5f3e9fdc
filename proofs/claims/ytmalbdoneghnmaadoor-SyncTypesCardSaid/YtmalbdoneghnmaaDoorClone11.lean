/-
  slices.Clone by contract, of elements of any number of cells.
-/
import Derived.Test.YtmalbdoneghnmaaDoorProg
import Derived.Test.YtmalbdoneghnmaaDoorHeap
namespace Go.Proofs.YtmalbdoneghnmaaDoor
open Go.RowKit Go.Stk

/-- What a clone is: a row of its own, in a new block, that holds the same. -/
def Cloned (T : TypeId) (k : Nat) (xs : List Value) (n : Nat) (w : World) (e : Ending) (w' : World) : Prop :=
  ∃ A c, e = .returned (.slice A n c) ∧ Row w' T k (.slice A n c) n xs ∧ (∀ g ∈ blk (.slice A n c), w.heap.size ≤ g) ∧ Below w.heap.size w w'
/-- What is cloned: nil, or a slice that reads so. -/
structure Src (w : World) (A : Option Addr) (n c k : Nat) (xs : List Value) : Prop where
  len : xs.length = n * k
  nil : A = none → c = 0
  cap : n ≤ c
  rd : Rd w A xs
  one : ∀ u ∈ xs, u.oneCell' = true
theorem Src.ofRow {w : World} {T : TypeId} {k n c : Nat} {A : Option Addr} {xs : List Value} (h : Row w T k (.slice A n c) n xs) (h1 : ∀ u ∈ xs, u.oneCell' = true) (hm : n * k ≤ maxLen) : Src w A n c k xs := by
  obtain ⟨A2, c2, e, hc, _, hn, hl⟩ := h.form
  injection e with e1 e2 e3
  subst e1 e3
  refine ⟨hl, hn, hc, ⟨by omega, fun hp => ?_⟩, h1⟩
  obtain ⟨g, cap, e, _, _, _, _, hcell, _⟩ := h.mid (by
    rcases Nat.eq_zero_or_pos n with h0 | h0
    · subst h0; rw [Nat.zero_mul] at hl; omega
    · exact h0)
  injection e with e1 e2 e3
  subst e1
  exact ⟨g, 0, rfl, fun j hj => by rw [Nat.zero_add]; exact hcell j _ (List.getElem?_eq_getElem hj)⟩
theorem Src.later {w w' : World} {A : Option Addr} {n c k : Nat} {xs : List Value} (h : Src w A n c k xs) (hb : Below w.heap.size w w') : Src w' A n c k xs := ⟨h.len, h.nil, h.cap, h.rd.later hb, h.one⟩
theorem info_val : (Tryd.prog.info? 37).map (fun i => (i.zero, i.size, i.bytes)) = some (some (.agg #[.int .i64 0, .int .i64 0, .int .u64 0]), 3, 24) := by kernel_rfl
set_option maxRecDepth 100000 in
set_option maxHeartbeats 1000000 in
theorem clone_val (A : Option Addr) (n c : Nat) (xs : List Value) (w : World) (h : Src w A n c 3 xs) (hb : n * 24 ≤ 140737488355328) : Calls Tryd.prog 37 #[.slice A n c] w (Cloned 37 3 xs n w) := by
  have q := fun (w : World) (a : Option Addr) (n c n' c' : Nat) => Lib.run_eql_slice_nil (P := Tryd.prog) w _ _ a n c n' c' Tryd.underlying68
  obtain ⟨hl, hn, hc, hr, h1⟩ := h
  cases A with
  | none =>
    obtain rfl := hn rfl
    obtain rfl : n = 0 := by omega
    have hx : xs = [] := List.eq_nil_of_length_eq_zero (by simpa using hl)
    subst hx
    clear h1 hr hc hn hl hb
    go_enter Tryd.func37, Tryd.ntmps37
    go_wp2
    go_ret
    exact ⟨none, 0, rfl, Row.empty _ _ _ _, by simp [blk], Below.refl _ _⟩
  | some a =>
    have hm : n ≤ maxLen := by simp only [maxLen]; omega
    have HR := Lib.hid hr
    have HL := Lib.hid hl
    clear hr hl hn
    have HM := Lib.hid hm
    have HC := Lib.hid hc
    have HB := Lib.hid hb
    have H1 := Lib.hid h1
    clear hm hc hb h1
    go_enter Tryd.func37, Tryd.ntmps37
    go_wp2_with (at_builtin; refine append_row (by rfl) _ _ _ 37 _ 3 24 (by rfl) Tryd.underlying68 info_val (by rfl) (by omega) (.slice (some ⟨w.heap.size, 0, none⟩) 0 0) 0 [] (by rfl) (Row.empty _ _ _ _) (some a) n c xs (by rfl) HL.out (by simp) HC.out (HR.out.later (below_alloc (Below.refl _ _) _)) H1.out (by rw [Nat.zero_add]; exact HM.out) (by rw [Nat.zero_add]; exact HB.out) ?_; intro v1 w1 hrow hk hb1)
    obtain ⟨A3, c3, rfl, _⟩ := hrow.form
    rw [Nat.zero_add] at *
    go_wp2
    go_ret
    simp only [blk] at hk hb1
    refine ⟨A3, c3, rfl, hrow, fun g hg => ?_, below_next (below_alloc (Below.refl _ _) _) hk.below0⟩
    rcases hb1 g hg with h2 | h2
    · simp at h2
    · simp at h2; omega
theorem info_bool : (Tryd.prog.info? 4).map (fun i => (i.zero, i.size, i.bytes)) = some (some (.bool false), 1, 1) := by kernel_rfl
set_option maxRecDepth 100000 in
set_option maxHeartbeats 1000000 in
theorem clone_bool (A : Option Addr) (n c : Nat) (xs : List Value) (w : World) (h : Src w A n c 1 xs) (hb : n * 1 ≤ 140737488355328) : Calls Tryd.prog 43 #[.slice A n c] w (Cloned 4 1 xs n w) := by
  have q := fun (w : World) (a : Option Addr) (n c n' c' : Nat) => Lib.run_eql_slice_nil (P := Tryd.prog) w _ _ a n c n' c' Tryd.underlying69
  obtain ⟨hl, hn, hc, hr, h1⟩ := h
  cases A with
  | none =>
    obtain rfl := hn rfl
    obtain rfl : n = 0 := by omega
    have hx : xs = [] := List.eq_nil_of_length_eq_zero (by simpa using hl)
    subst hx
    clear h1 hr hc hn hl hb
    go_enter Tryd.func43, Tryd.ntmps43
    go_wp2
    go_ret
    exact ⟨none, 0, rfl, Row.empty _ _ _ _, by simp [blk], Below.refl _ _⟩
  | some a =>
    have hm : n ≤ maxLen := by simp only [maxLen]; omega
    have HR := Lib.hid hr
    have HL := Lib.hid hl
    clear hr hl hn
    have HM := Lib.hid hm
    have HC := Lib.hid hc
    have HB := Lib.hid hb
    have H1 := Lib.hid h1
    clear hm hc hb h1
    go_enter Tryd.func43, Tryd.ntmps43
    go_wp2_with (at_builtin; refine append_row (by rfl) _ _ _ 4 _ 1 1 (by rfl) Tryd.underlying69 info_bool (by rfl) (by omega) (.slice (some ⟨w.heap.size, 0, none⟩) 0 0) 0 [] (by rfl) (Row.empty _ _ _ _) (some a) n c xs (by rfl) HL.out (by simp) HC.out (HR.out.later (below_alloc (Below.refl _ _) _)) H1.out (by rw [Nat.zero_add]; exact HM.out) (by rw [Nat.zero_add]; exact HB.out) ?_; intro v1 w1 hrow hk hb1)
    obtain ⟨A3, c3, rfl, _⟩ := hrow.form
    rw [Nat.zero_add] at *
    go_wp2
    go_ret
    simp only [blk] at hk hb1
    refine ⟨A3, c3, rfl, hrow, fun g hg => ?_, below_next (below_alloc (Below.refl _ _) _) hk.below0⟩
    rcases hb1 g hg with h2 | h2
    · simp at h2
    · simp at h2; omega
theorem info_queue : (Tryd.prog.info? 81).map (fun i => (i.zero, i.size, i.bytes)) = some (some (.agg #[.int .i64 0, .int .i64 0, .slice none 0 0]), 3, 40) := by kernel_rfl
set_option maxRecDepth 100000 in
set_option maxHeartbeats 1000000 in
theorem clone_queue (A : Option Addr) (n c : Nat) (xs : List Value) (w : World) (h : Src w A n c 3 xs) (hb : n * 40 ≤ 140737488355328) : Calls Tryd.prog 44 #[.slice A n c] w (Cloned 81 3 xs n w) := by
  have q := fun (w : World) (a : Option Addr) (n c n' c' : Nat) => Lib.run_eql_slice_nil (P := Tryd.prog) w _ _ a n c n' c' Tryd.underlying77
  obtain ⟨hl, hn, hc, hr, h1⟩ := h
  cases A with
  | none =>
    obtain rfl := hn rfl
    obtain rfl : n = 0 := by omega
    have hx : xs = [] := List.eq_nil_of_length_eq_zero (by simpa using hl)
    subst hx
    clear h1 hr hc hn hl hb
    go_enter Tryd.func44, Tryd.ntmps44
    go_wp2
    go_ret
    exact ⟨none, 0, rfl, Row.empty _ _ _ _, by simp [blk], Below.refl _ _⟩
  | some a =>
    have hm : n ≤ maxLen := by simp only [maxLen]; omega
    have HR := Lib.hid hr
    have HL := Lib.hid hl
    clear hr hl hn
    have HM := Lib.hid hm
    have HC := Lib.hid hc
    have HB := Lib.hid hb
    have H1 := Lib.hid h1
    clear hm hc hb h1
    go_enter Tryd.func44, Tryd.ntmps44
    go_wp2_with (at_builtin; refine append_row (by rfl) _ _ _ 81 _ 3 40 (by rfl) Tryd.underlying77 info_queue (by rfl) (by omega) (.slice (some ⟨w.heap.size, 0, none⟩) 0 0) 0 [] (by rfl) (Row.empty _ _ _ _) (some a) n c xs (by rfl) HL.out (by simp) HC.out (HR.out.later (below_alloc (Below.refl _ _) _)) H1.out (by rw [Nat.zero_add]; exact HM.out) (by rw [Nat.zero_add]; exact HB.out) ?_; intro v1 w1 hrow hk hb1)
    obtain ⟨A3, c3, rfl, _⟩ := hrow.form
    rw [Nat.zero_add] at *
    go_wp2
    go_ret
    simp only [blk] at hk hb1
    refine ⟨A3, c3, rfl, hrow, fun g hg => ?_, below_next (below_alloc (Below.refl _ _) _) hk.below0⟩
    rcases hb1 g hg with h2 | h2
    · simp at h2
    · simp at h2; omega
theorem info_int : (Tryd.prog.info? 3).map (fun i => (i.zero, i.size, i.bytes)) = some (some (.int .i64 0), 1, 8) := by kernel_rfl
set_option maxRecDepth 100000 in
set_option maxHeartbeats 1000000 in
theorem clone_int (A : Option Addr) (n c : Nat) (xs : List Value) (w : World) (h : Src w A n c 1 xs) (hb : n * 8 ≤ 140737488355328) : Calls Tryd.prog 45 #[.slice A n c] w (Cloned 3 1 xs n w) := by
  have q := fun (w : World) (a : Option Addr) (n c n' c' : Nat) => Lib.run_eql_slice_nil (P := Tryd.prog) w _ _ a n c n' c' Tryd.underlying22
  obtain ⟨hl, hn, hc, hr, h1⟩ := h
  cases A with
  | none =>
    obtain rfl := hn rfl
    obtain rfl : n = 0 := by omega
    have hx : xs = [] := List.eq_nil_of_length_eq_zero (by simpa using hl)
    subst hx
    clear h1 hr hc hn hl hb
    go_enter Tryd.func45, Tryd.ntmps45
    go_wp2
    go_ret
    exact ⟨none, 0, rfl, Row.empty _ _ _ _, by simp [blk], Below.refl _ _⟩
  | some a =>
    have hm : n ≤ maxLen := by simp only [maxLen]; omega
    have HR := Lib.hid hr
    have HL := Lib.hid hl
    clear hr hl hn
    have HM := Lib.hid hm
    have HC := Lib.hid hc
    have HB := Lib.hid hb
    have H1 := Lib.hid h1
    clear hm hc hb h1
    go_enter Tryd.func45, Tryd.ntmps45
    go_wp2_with (at_builtin; refine append_row (by rfl) _ _ _ 3 _ 1 8 (by rfl) Tryd.underlying22 info_int (by rfl) (by omega) (.slice (some ⟨w.heap.size, 0, none⟩) 0 0) 0 [] (by rfl) (Row.empty _ _ _ _) (some a) n c xs (by rfl) HL.out (by simp) HC.out (HR.out.later (below_alloc (Below.refl _ _) _)) H1.out (by rw [Nat.zero_add]; exact HM.out) (by rw [Nat.zero_add]; exact HB.out) ?_; intro v1 w1 hrow hk hb1)
    obtain ⟨A3, c3, rfl, _⟩ := hrow.form
    rw [Nat.zero_add] at *
    go_wp2
    go_ret
    simp only [blk] at hk hb1
    refine ⟨A3, c3, rfl, hrow, fun g hg => ?_, below_next (below_alloc (Below.refl _ _) _) hk.below0⟩
    rcases hb1 g hg with h2 | h2
    · simp at h2
    · simp at h2; omega
end Go.Proofs.YtmalbdoneghnmaaDoor
