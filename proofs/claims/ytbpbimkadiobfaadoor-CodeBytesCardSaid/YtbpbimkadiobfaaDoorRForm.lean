/-
  The document's answer on a code: out of bounds (A).
-/
import Derived.Test.YtbpbimkadiobfaaDoorRIns7
import Derived.Test.YtbpbimkadiobfaaDoorCode6
import Derived.Deep.QuietTactic
namespace Go.Proofs.YtbpbimkadiobfaaDoor
open Go.RowKit Go.Stk

set_option maxRecDepth 100000 in
set_option maxHeartbeats 8000000 in
theorem rfb_0 (pA : Option Addr) (pc : Nat) (places : List Int) (mux ato : Int) (cA : Option Addr) (cc : Nat) (chans : List (Int × Int)) (fA : Option Addr) (fc : Nat) (funcs : List Fn) (start : Int) (bA : Option Addr) (bc : Nat) (body : List Ins) (w : World) (_hlp : places.length ≤ 140737488351232) (_hlc : chans.length ≤ 140737488351232) (_hlf : funcs.length ≤ 140737488351232) (_hlb : body.length ≤ 140737488351232)  (h0 : 128 < (places.length : Int)) : Calls Tryd.prog 19 #[.agg #[.slice pA places.length pc, .int .i64 mux, .int .i64 ato, .slice cA chans.length cc, .slice fA funcs.length fc, .int .i64 start, .slice bA body.length bc]] w (Ret w (.bool false)) := by
  have d0 : decide (128 < (places.length : Int)) = true := decide_eq_true h0
  go_enter Tryd.func19, Tryd.ntmps19
  simp only [List.append]
  go_wp2_with fail
  go_ret
  exact ⟨rfl, below_alloc (Below.refl _ _) _⟩
set_option maxRecDepth 100000 in
set_option maxHeartbeats 8000000 in
theorem rfb_1 (pA : Option Addr) (pc : Nat) (places : List Int) (mux ato : Int) (cA : Option Addr) (cc : Nat) (chans : List (Int × Int)) (fA : Option Addr) (fc : Nat) (funcs : List Fn) (start : Int) (bA : Option Addr) (bc : Nat) (body : List Ins) (w : World) (_hlp : places.length ≤ 140737488351232) (_hlc : chans.length ≤ 140737488351232) (_hlf : funcs.length ≤ 140737488351232) (_hlb : body.length ≤ 140737488351232) (h0 : ¬ 128 < (places.length : Int)) (h1 : mux < 0) : Calls Tryd.prog 19 #[.agg #[.slice pA places.length pc, .int .i64 mux, .int .i64 ato, .slice cA chans.length cc, .slice fA funcs.length fc, .int .i64 start, .slice bA body.length bc]] w (Ret w (.bool false)) := by
  have d0 : decide (128 < (places.length : Int)) = false := decide_eq_false h0
  have d1 : decide (mux < 0) = true := decide_eq_true h1
  go_enter Tryd.func19, Tryd.ntmps19
  simp only [List.append]
  go_wp2_with fail
  go_ret
  exact ⟨rfl, below_alloc (Below.refl _ _) _⟩
set_option maxRecDepth 100000 in
set_option maxHeartbeats 8000000 in
theorem rfb_2 (pA : Option Addr) (pc : Nat) (places : List Int) (mux ato : Int) (cA : Option Addr) (cc : Nat) (chans : List (Int × Int)) (fA : Option Addr) (fc : Nat) (funcs : List Fn) (start : Int) (bA : Option Addr) (bc : Nat) (body : List Ins) (w : World) (_hlp : places.length ≤ 140737488351232) (_hlc : chans.length ≤ 140737488351232) (_hlf : funcs.length ≤ 140737488351232) (_hlb : body.length ≤ 140737488351232) (h0 : ¬ 128 < (places.length : Int)) (h1 : ¬ mux < 0) (h2 : 32 < mux) : Calls Tryd.prog 19 #[.agg #[.slice pA places.length pc, .int .i64 mux, .int .i64 ato, .slice cA chans.length cc, .slice fA funcs.length fc, .int .i64 start, .slice bA body.length bc]] w (Ret w (.bool false)) := by
  have d0 : decide (128 < (places.length : Int)) = false := decide_eq_false h0
  have d1 : decide (mux < 0) = false := decide_eq_false h1
  have d2 : decide (32 < mux) = true := decide_eq_true h2
  go_enter Tryd.func19, Tryd.ntmps19
  simp only [List.append]
  go_wp2_with fail
  go_ret
  exact ⟨rfl, below_alloc (Below.refl _ _) _⟩
end Go.Proofs.YtbpbimkadiobfaaDoor

/-
  The document's answer on a code: out of bounds (B).
-/
namespace Go.Proofs.YtbpbimkadiobfaaDoor
open Go.RowKit Go.Stk

set_option maxRecDepth 100000 in
set_option maxHeartbeats 8000000 in
theorem rfb_3 (pA : Option Addr) (pc : Nat) (places : List Int) (mux ato : Int) (cA : Option Addr) (cc : Nat) (chans : List (Int × Int)) (fA : Option Addr) (fc : Nat) (funcs : List Fn) (start : Int) (bA : Option Addr) (bc : Nat) (body : List Ins) (w : World) (_hlp : places.length ≤ 140737488351232) (_hlc : chans.length ≤ 140737488351232) (_hlf : funcs.length ≤ 140737488351232) (_hlb : body.length ≤ 140737488351232) (h0 : ¬ 128 < (places.length : Int)) (h1 : ¬ mux < 0) (h2 : ¬ 32 < mux) (h3 : ato < 0) : Calls Tryd.prog 19 #[.agg #[.slice pA places.length pc, .int .i64 mux, .int .i64 ato, .slice cA chans.length cc, .slice fA funcs.length fc, .int .i64 start, .slice bA body.length bc]] w (Ret w (.bool false)) := by
  have d0 : decide (128 < (places.length : Int)) = false := decide_eq_false h0
  have d1 : decide (mux < 0) = false := decide_eq_false h1
  have d2 : decide (32 < mux) = false := decide_eq_false h2
  have d3 : decide (ato < 0) = true := decide_eq_true h3
  go_enter Tryd.func19, Tryd.ntmps19
  simp only [List.append]
  go_wp2_with fail
  go_ret
  exact ⟨rfl, below_alloc (Below.refl _ _) _⟩
set_option maxRecDepth 100000 in
set_option maxHeartbeats 8000000 in
theorem rfb_4 (pA : Option Addr) (pc : Nat) (places : List Int) (mux ato : Int) (cA : Option Addr) (cc : Nat) (chans : List (Int × Int)) (fA : Option Addr) (fc : Nat) (funcs : List Fn) (start : Int) (bA : Option Addr) (bc : Nat) (body : List Ins) (w : World) (_hlp : places.length ≤ 140737488351232) (_hlc : chans.length ≤ 140737488351232) (_hlf : funcs.length ≤ 140737488351232) (_hlb : body.length ≤ 140737488351232) (h0 : ¬ 128 < (places.length : Int)) (h1 : ¬ mux < 0) (h2 : ¬ 32 < mux) (h3 : ¬ ato < 0) (h4 : 32 < ato) : Calls Tryd.prog 19 #[.agg #[.slice pA places.length pc, .int .i64 mux, .int .i64 ato, .slice cA chans.length cc, .slice fA funcs.length fc, .int .i64 start, .slice bA body.length bc]] w (Ret w (.bool false)) := by
  have d0 : decide (128 < (places.length : Int)) = false := decide_eq_false h0
  have d1 : decide (mux < 0) = false := decide_eq_false h1
  have d2 : decide (32 < mux) = false := decide_eq_false h2
  have d3 : decide (ato < 0) = false := decide_eq_false h3
  have d4 : decide (32 < ato) = true := decide_eq_true h4
  go_enter Tryd.func19, Tryd.ntmps19
  simp only [List.append]
  go_wp2_with fail
  go_ret
  exact ⟨rfl, below_alloc (Below.refl _ _) _⟩
set_option maxRecDepth 100000 in
set_option maxHeartbeats 8000000 in
theorem rfb_5 (pA : Option Addr) (pc : Nat) (places : List Int) (mux ato : Int) (cA : Option Addr) (cc : Nat) (chans : List (Int × Int)) (fA : Option Addr) (fc : Nat) (funcs : List Fn) (start : Int) (bA : Option Addr) (bc : Nat) (body : List Ins) (w : World) (_hlp : places.length ≤ 140737488351232) (_hlc : chans.length ≤ 140737488351232) (_hlf : funcs.length ≤ 140737488351232) (_hlb : body.length ≤ 140737488351232) (h0 : ¬ 128 < (places.length : Int)) (h1 : ¬ mux < 0) (h2 : ¬ 32 < mux) (h3 : ¬ ato < 0) (h4 : ¬ 32 < ato) (h5 : 32 < mux + ato + (chans.length : Int)) : Calls Tryd.prog 19 #[.agg #[.slice pA places.length pc, .int .i64 mux, .int .i64 ato, .slice cA chans.length cc, .slice fA funcs.length fc, .int .i64 start, .slice bA body.length bc]] w (Ret w (.bool false)) := by
  have d0 : decide (128 < (places.length : Int)) = false := decide_eq_false h0
  have d1 : decide (mux < 0) = false := decide_eq_false h1
  have d2 : decide (32 < mux) = false := decide_eq_false h2
  have d3 : decide (ato < 0) = false := decide_eq_false h3
  have d4 : decide (32 < ato) = false := decide_eq_false h4
  have d5 : decide (32 < mux + ato + (chans.length : Int)) = true := decide_eq_true h5
  go_enter Tryd.func19, Tryd.ntmps19
  simp only [List.append]
  go_wp2_with fail
  go_ret
  exact ⟨rfl, below_alloc (Below.refl _ _) _⟩
end Go.Proofs.YtbpbimkadiobfaaDoor

/-
  The document's answer on a code: out of bounds (C).
-/
namespace Go.Proofs.YtbpbimkadiobfaaDoor
open Go.RowKit Go.Stk

set_option maxRecDepth 100000 in
set_option maxHeartbeats 8000000 in
theorem rfb_6 (pA : Option Addr) (pc : Nat) (places : List Int) (mux ato : Int) (cA : Option Addr) (cc : Nat) (chans : List (Int × Int)) (fA : Option Addr) (fc : Nat) (funcs : List Fn) (start : Int) (bA : Option Addr) (bc : Nat) (body : List Ins) (w : World) (_hlp : places.length ≤ 140737488351232) (_hlc : chans.length ≤ 140737488351232) (_hlf : funcs.length ≤ 140737488351232) (_hlb : body.length ≤ 140737488351232) (h0 : ¬ 128 < (places.length : Int)) (h1 : ¬ mux < 0) (h2 : ¬ 32 < mux) (h3 : ¬ ato < 0) (h4 : ¬ 32 < ato) (h5 : ¬ 32 < mux + ato + (chans.length : Int)) (h6 : 16 < (funcs.length : Int)) : Calls Tryd.prog 19 #[.agg #[.slice pA places.length pc, .int .i64 mux, .int .i64 ato, .slice cA chans.length cc, .slice fA funcs.length fc, .int .i64 start, .slice bA body.length bc]] w (Ret w (.bool false)) := by
  have d0 : decide (128 < (places.length : Int)) = false := decide_eq_false h0
  have d1 : decide (mux < 0) = false := decide_eq_false h1
  have d2 : decide (32 < mux) = false := decide_eq_false h2
  have d3 : decide (ato < 0) = false := decide_eq_false h3
  have d4 : decide (32 < ato) = false := decide_eq_false h4
  have d5 : decide (32 < mux + ato + (chans.length : Int)) = false := decide_eq_false h5
  have d6 : decide (16 < (funcs.length : Int)) = true := decide_eq_true h6
  go_enter Tryd.func19, Tryd.ntmps19
  simp only [List.append]
  go_wp2_with fail
  go_ret
  exact ⟨rfl, below_alloc (Below.refl _ _) _⟩
set_option maxRecDepth 100000 in
set_option maxHeartbeats 8000000 in
theorem rfb_7 (pA : Option Addr) (pc : Nat) (places : List Int) (mux ato : Int) (cA : Option Addr) (cc : Nat) (chans : List (Int × Int)) (fA : Option Addr) (fc : Nat) (funcs : List Fn) (start : Int) (bA : Option Addr) (bc : Nat) (body : List Ins) (w : World) (_hlp : places.length ≤ 140737488351232) (_hlc : chans.length ≤ 140737488351232) (_hlf : funcs.length ≤ 140737488351232) (_hlb : body.length ≤ 140737488351232) (h0 : ¬ 128 < (places.length : Int)) (h1 : ¬ mux < 0) (h2 : ¬ 32 < mux) (h3 : ¬ ato < 0) (h4 : ¬ 32 < ato) (h5 : ¬ 32 < mux + ato + (chans.length : Int)) (h6 : ¬ 16 < (funcs.length : Int)) (h7 : 8192 < (body.length : Int)) : Calls Tryd.prog 19 #[.agg #[.slice pA places.length pc, .int .i64 mux, .int .i64 ato, .slice cA chans.length cc, .slice fA funcs.length fc, .int .i64 start, .slice bA body.length bc]] w (Ret w (.bool false)) := by
  have d0 : decide (128 < (places.length : Int)) = false := decide_eq_false h0
  have d1 : decide (mux < 0) = false := decide_eq_false h1
  have d2 : decide (32 < mux) = false := decide_eq_false h2
  have d3 : decide (ato < 0) = false := decide_eq_false h3
  have d4 : decide (32 < ato) = false := decide_eq_false h4
  have d5 : decide (32 < mux + ato + (chans.length : Int)) = false := decide_eq_false h5
  have d6 : decide (16 < (funcs.length : Int)) = false := decide_eq_false h6
  have d7 : decide (8192 < (body.length : Int)) = true := decide_eq_true h7
  go_enter Tryd.func19, Tryd.ntmps19
  simp only [List.append]
  go_wp2_with fail
  go_ret
  exact ⟨rfl, below_alloc (Below.refl _ _) _⟩
end Go.Proofs.YtbpbimkadiobfaaDoor

/-
  The document's answer on a code: out of bounds (D).
-/
namespace Go.Proofs.YtbpbimkadiobfaaDoor
open Go.RowKit Go.Stk

set_option maxRecDepth 100000 in
set_option maxHeartbeats 8000000 in
theorem rfb_8 (pA : Option Addr) (pc : Nat) (places : List Int) (mux ato : Int) (cA : Option Addr) (cc : Nat) (chans : List (Int × Int)) (fA : Option Addr) (fc : Nat) (funcs : List Fn) (start : Int) (bA : Option Addr) (bc : Nat) (body : List Ins) (w : World) (_hlp : places.length ≤ 140737488351232) (_hlc : chans.length ≤ 140737488351232) (_hlf : funcs.length ≤ 140737488351232) (_hlb : body.length ≤ 140737488351232) (h0 : ¬ 128 < (places.length : Int)) (h1 : ¬ mux < 0) (h2 : ¬ 32 < mux) (h3 : ¬ ato < 0) (h4 : ¬ 32 < ato) (h5 : ¬ 32 < mux + ato + (chans.length : Int)) (h6 : ¬ 16 < (funcs.length : Int)) (h7 : ¬ 8192 < (body.length : Int)) (HZ : Hid (wB start 0 ((funcs.length : Int) - 1) = false)) : Calls Tryd.prog 19 #[.agg #[.slice pA places.length pc, .int .i64 mux, .int .i64 ato, .slice cA chans.length cc, .slice fA funcs.length fc, .int .i64 start, .slice bA body.length bc]] w (Ret w (.bool false)) := by
  have d0 : decide (128 < (places.length : Int)) = false := decide_eq_false h0
  have d1 : decide (mux < 0) = false := decide_eq_false h1
  have d2 : decide (32 < mux) = false := decide_eq_false h2
  have d3 : decide (ato < 0) = false := decide_eq_false h3
  have d4 : decide (32 < ato) = false := decide_eq_false h4
  have d5 : decide (32 < mux + ato + (chans.length : Int)) = false := decide_eq_false h5
  have d6 : decide (16 < (funcs.length : Int)) = false := decide_eq_false h6
  have d7 : decide (8192 < (body.length : Int)) = false := decide_eq_false h7
  go_enter Tryd.func19, Tryd.ntmps19
  simp only [List.append]
  go_wp2_with fail
  refine (in_any _ _ _).mono ?_
  rintro e w' ⟨rfl, rfl⟩
  rw [HZ.out]
  go_wp2_with fail
  go_ret
  exact ⟨rfl, below_alloc (Below.refl _ _) _⟩
set_option maxRecDepth 100000 in
set_option maxHeartbeats 8000000 in
theorem rfb_9 (pA : Option Addr) (pc : Nat) (places : List Int) (mux ato : Int) (cA : Option Addr) (cc : Nat) (chans : List (Int × Int)) (b1 o1 : Nat) (fc : Nat) (funcs : List Fn) (n : Nat) (bA : Option Addr) (bc : Nat) (body : List Ins) (w : World) (_hlp : places.length ≤ 140737488351232) (_hlc : chans.length ≤ 140737488351232) (_hlf : funcs.length ≤ 140737488351232) (_hlb : body.length ≤ 140737488351232) (h0 : ¬ 128 < (places.length : Int)) (h1 : ¬ mux < 0) (h2 : ¬ 32 < mux) (h3 : ¬ ato < 0) (h4 : ¬ 32 < ato) (h5 : ¬ 32 < mux + ato + (chans.length : Int)) (h6 : ¬ 16 < (funcs.length : Int)) (h7 : ¬ 8192 < (body.length : Int)) (HZ : Hid (wB (n : Int) 0 ((funcs.length : Int) - 1) = true)) (f : Fn) (dpa : (f.pa != 0) = true) (_hn : n < funcs.length) (_c2 : (w.alloc (.cells #[.slice pA places.length pc, .int .i64 mux, .int .i64 ato, .slice cA chans.length cc, .slice (some ⟨b1, o1, none⟩) funcs.length fc, .int .i64 (n : Int), .slice bA body.length bc] 31)).cell? ⟨b1, o1 + n * 3 + 1, none⟩ = some (.int .i64 f.pa)) : Calls Tryd.prog 19 #[.agg #[.slice pA places.length pc, .int .i64 mux, .int .i64 ato, .slice cA chans.length cc, .slice (some ⟨b1, o1, none⟩) funcs.length fc, .int .i64 (n : Int), .slice bA body.length bc]] w (Ret w (.bool false)) := by
  have d0 : decide (128 < (places.length : Int)) = false := decide_eq_false h0
  have d1 : decide (mux < 0) = false := decide_eq_false h1
  have d2 : decide (32 < mux) = false := decide_eq_false h2
  have d3 : decide (ato < 0) = false := decide_eq_false h3
  have d4 : decide (32 < ato) = false := decide_eq_false h4
  have d5 : decide (32 < mux + ato + (chans.length : Int)) = false := decide_eq_false h5
  have d6 : decide (16 < (funcs.length : Int)) = false := decide_eq_false h6
  have d7 : decide (8192 < (body.length : Int)) = false := decide_eq_false h7
  go_enter Tryd.func19, Tryd.ntmps19
  simp only [List.append]
  go_wp2_with fail
  refine (in_any _ _ _).mono ?_
  rintro e w' ⟨rfl, rfl⟩
  rw [HZ.out]
  go_wp2_with fail
  go_ret
  exact ⟨rfl, below_alloc (Below.refl _ _) _⟩
end Go.Proofs.YtbpbimkadiobfaaDoor

/-
  The document's answer on a code: in form just as asked.
-/
namespace Go.Proofs.YtbpbimkadiobfaaDoor
open Go.RowKit Go.Stk

/-- The function ahead of it starts earlier. -/
def ahead (l : List Fn) (k : Nat) : Int := match k with | 0 => -1 | j + 1 => (l[j]?.map Fn.st).getD (-1)
theorem ahead_next {l : List Fn} {k : Nat} {f : Fn} (h : l[k]? = some f) : ahead l (k + 1) = f.st := by simp [ahead, h]
theorem fnsB_drop {l : List Fn} {k n : Nat} {last : Int} {f : Fn} (h : l[k]? = some f) : fnsB last k n (l.drop k) = (fnB last k n f && fnsB f.st (k + 1) n (l.drop (k + 1))) := by
  obtain ⟨h1, h2⟩ := List.getElem?_eq_some_iff.1 h
  rw [List.drop_eq_getElem_cons h1, h2]
  rfl
theorem fnB_zero {n : Nat} {x : Fn} (h0 : x.st = 0) (h1 : x.st < (n : Int)) (h2 : 0 ≤ x.pa) (h3 : x.pa ≤ 4) (h4 : x.pa ≤ (x.locals.length : Int)) (h5 : (x.locals.length : Int) ≤ 32) : fnB (-1) 0 n x = x.locals.all tyB := by
  unfold fnB
  rw [wB_t (n := x.pa) (a := 0) (b := min 4 (x.locals.length : Int)) h2 (by omega), h0, show decide ((0 : Int) < (n : Int)) = true from decide_eq_true (by omega), show decide (x.locals.length ≤ 32) = true from decide_eq_true (by omega)]
  simp
theorem fnB_pos {last : Int} {k n : Nat} {x : Fn} (hk : k ≠ 0) (h0 : last < x.st) (h1 : x.st < (n : Int)) (h2 : 0 ≤ x.pa) (h3 : x.pa ≤ 4) (h4 : x.pa ≤ (x.locals.length : Int)) (h5 : (x.locals.length : Int) ≤ 32) : fnB last k n x = x.locals.all tyB := by
  unfold fnB
  rw [wB_t (n := x.pa) (a := 0) (b := min 4 (x.locals.length : Int)) h2 (by omega), show decide (x.st ≤ last) = false from decide_eq_false (by omega), show decide (k = 0) = false from decide_eq_false hk, show decide (x.st < (n : Int)) = true from decide_eq_true h1, show decide (x.locals.length ≤ 32) = true from decide_eq_true (by omega)]
  simp
theorem in_quiet {a k : Int} {z : Bool} (hz : wB a 0 (k - 1) = z) (W : World) (n : Nat) : Calls Tryd.prog 40 #[.int .i64 a, .int .i64 k] (W.drewN n) fun e w'' => e = .returned (.bool z) ∧ ∃ m, w'' = W.drewN m :=
  (in_any a k (W.drewN n)).mono fun _ _ ⟨h1, h2⟩ => ⟨by rw [h1, hz], n, h2.symm⟩
theorem fnB_bad {last : Int} {k n : Nat} {f : Fn} (h : fnB last k n f = false) {l : List Fn} {s : Bool} (hk : l[k]? = some f) (hs : s = fnsB last k n (l.drop k)) : s = false := by
  rw [hs, fnsB_drop hk, h]; rfl
set_option maxRecDepth 100000 in
set_option maxHeartbeats 8000000 in
theorem refForm_any (c : Co) (w : World) (h : c.Rep w) : Calls Tryd.prog 19 #[c.agg] w (Ret w (.bool (checkB c))) := by
  have hlp := h.lp
  have hlc := h.lc
  have hlf := h.lf
  have hlb := h.lb
  obtain ⟨S, hS⟩ : ∃ S, checkB c = S := ⟨_, rfl⟩
  rw [hS]
  unfold checkB shapeB at hS
  have S0 := Lib.hid (shR_start c w h)
  unfold Co.agg
  clear h
  obtain ⟨pA, pc, places, mux, ato, cA, cc, chans, fA, fc, funcs, start, bA, bc, body⟩ := c
  dsimp only at hlp hlc hlf hlb hS S0 ⊢
  have HS := Lib.hid hS
  clear hS
  by_cases h0 : 128 < (places.length : Int)
  · have E : Hid (S = false) := by show _ = _; rw [← HS.out]; simp [show ¬ places.length ≤ 128 from by omega]
    rw [E.out]
    exact rfb_0 _ _ _ _ _ _ _ _ _ _ _ _ _ _ _ _ hlp hlc hlf hlb h0
  have d0 : decide (128 < (places.length : Int)) = false := decide_eq_false h0
  have k0 : places.length ≤ 128 := by omega
  by_cases h1 : mux < 0
  · have E : Hid (S = false) := by show _ = _; rw [← HS.out]; simp [k0, show wB mux 0 32 = false from wB_f (by omega)]
    rw [E.out]
    exact rfb_1 _ _ _ _ _ _ _ _ _ _ _ _ _ _ _ _ hlp hlc hlf hlb h0 h1
  have d1 : decide (mux < 0) = false := decide_eq_false h1
  by_cases h2 : 32 < mux
  · have E : Hid (S = false) := by show _ = _; rw [← HS.out]; simp [k0, show wB mux 0 32 = false from wB_f (by omega)]
    rw [E.out]
    exact rfb_2 _ _ _ _ _ _ _ _ _ _ _ _ _ _ _ _ hlp hlc hlf hlb h0 h1 h2
  have d2 : decide (32 < mux) = false := decide_eq_false h2
  have k2 : wB mux 0 32 = true := wB_t (by omega) (by omega)
  by_cases h3 : ato < 0
  · have E : Hid (S = false) := by show _ = _; rw [← HS.out]; simp [k0, k2, show wB ato 0 32 = false from wB_f (by omega)]
    rw [E.out]
    exact rfb_3 _ _ _ _ _ _ _ _ _ _ _ _ _ _ _ _ hlp hlc hlf hlb h0 h1 h2 h3
  have d3 : decide (ato < 0) = false := decide_eq_false h3
  by_cases h4 : 32 < ato
  · have E : Hid (S = false) := by show _ = _; rw [← HS.out]; simp [k0, k2, show wB ato 0 32 = false from wB_f (by omega)]
    rw [E.out]
    exact rfb_4 _ _ _ _ _ _ _ _ _ _ _ _ _ _ _ _ hlp hlc hlf hlb h0 h1 h2 h3 h4
  have d4 : decide (32 < ato) = false := decide_eq_false h4
  have k4 : wB ato 0 32 = true := wB_t (by omega) (by omega)
  by_cases h5 : 32 < mux + ato + (chans.length : Int)
  · have E : Hid (S = false) := by show _ = _; rw [← HS.out]; simp [k0, k2, k4, show ¬ mux + ato + (chans.length : Int) ≤ 32 from by omega]
    rw [E.out]
    exact rfb_5 _ _ _ _ _ _ _ _ _ _ _ _ _ _ _ _ hlp hlc hlf hlb h0 h1 h2 h3 h4 h5
  have d5 : decide (32 < mux + ato + (chans.length : Int)) = false := decide_eq_false h5
  have k5 : mux + ato + (chans.length : Int) ≤ 32 := by omega
  by_cases h6 : 16 < (funcs.length : Int)
  · have E : Hid (S = false) := by show _ = _; rw [← HS.out]; simp [k0, k2, k4, k5, show ¬ funcs.length ≤ 16 from by omega]
    rw [E.out]
    exact rfb_6 _ _ _ _ _ _ _ _ _ _ _ _ _ _ _ _ hlp hlc hlf hlb h0 h1 h2 h3 h4 h5 h6
  have d6 : decide (16 < (funcs.length : Int)) = false := decide_eq_false h6
  have k6 : funcs.length ≤ 16 := by omega
  by_cases h7 : 8192 < (body.length : Int)
  · have E : Hid (S = false) := by show _ = _; rw [← HS.out]; simp [k0, k2, k4, k5, k6, show ¬ body.length ≤ 8192 from by omega]
    rw [E.out]
    exact rfb_7 _ _ _ _ _ _ _ _ _ _ _ _ _ _ _ _ hlp hlc hlf hlb h0 h1 h2 h3 h4 h5 h6 h7
  have d7 : decide (8192 < (body.length : Int)) = false := decide_eq_false h7
  have k7 : body.length ≤ 8192 := by omega
  obtain ⟨z, hz⟩ : ∃ z, wB start 0 ((funcs.length : Int) - 1) = z := ⟨_, rfl⟩
  have HZ := Lib.hid hz
  cases z
  · have E : Hid (S = false) := by show _ = _; rw [← HS.out]; simp [k0, k2, k4, k5, k6, k7, HZ.out]
    rw [E.out]
    exact rfb_8 _ _ _ _ _ _ _ _ _ _ _ _ _ _ _ _ hlp hlc hlf hlb h0 h1 h2 h3 h4 h5 h6 h7 HZ
  obtain ⟨n, rfl⟩ : ∃ n : Nat, start = (n : Int) := ⟨start.toNat, by have := (wB_iff _ _ _).1 hz; omega⟩
  have hn : n < funcs.length := by have := (wB_iff _ _ _).1 hz; omega
  obtain ⟨f, hf⟩ : ∃ f, funcs[n]? = some f := ⟨_, List.getElem?_eq_getElem hn⟩
  obtain ⟨b1, o1, ea, c1, c2, c3⟩ := fn_at S0.out.rep.fn n f hf
  dsimp only at ea
  subst ea
  clear hz c1 c3
  by_cases hpa : f.pa = 0
  rotate_left
  · have dpa : (f.pa != 0) = true := by simpa using hpa
    have E : Hid (S = false) := by show _ = _; rw [← HS.out]; simp [k0, k2, k4, k5, k6, k7, HZ.out, hf, hpa]
    rw [E.out]
    exact rfb_9 _ _ _ _ _ _ _ _ _ _ _ _ _ _ _ _ _ hlp hlc hlf hlb h0 h1 h2 h3 h4 h5 h6 h7 HZ f dpa hn c2
  have dpa : (f.pa != 0) = false := by simpa using hpa
  have HE : Hid (S = ((places.all tyB && (chans.all chB && fnsB (-1) 0 body.length funcs)) && body.all (insB ⟨pA, pc, places, mux, ato, cA, cc, chans, (some ⟨b1, o1, none⟩), fc, funcs, (n : Int), bA, bc, body⟩))) := by
    show _ = _
    rw [← HS.out]
    generalize body.all (insB ⟨pA, pc, places, mux, ato, cA, cc, chans, (some ⟨b1, o1, none⟩), fc, funcs, (n : Int), bA, bc, body⟩) = u4
    generalize places.all tyB = u1
    generalize chans.all chB = u2
    generalize fnsB (-1) 0 body.length funcs = u3
    cases u1 <;> cases u2 <;> cases u3 <;> cases u4 <;> simp [k0, k2, k4, k5, k6, k7, HZ.out, hf, hpa]
  have HBD : Hid (Bnd ⟨pA, pc, places, mux, ato, cA, cc, chans, (some ⟨b1, o1, none⟩), fc, funcs, (n : Int), bA, bc, body⟩) := ⟨k0, (by show 0 ≤ mux; omega), (by show mux ≤ 32; omega), (by show 0 ≤ ato; omega), (by show ato ≤ 32; omega), (by show chans.length ≤ 32; omega), k6, k7⟩
  clear HS hf hpa h0 h6 h7 k2 k4
  go_enter Tryd.func19, Tryd.ntmps19
  simp only [List.append]
  go_wp2_with fail
  refine (in_any _ _ _).mono ?_
  rintro e w' ⟨rfl, rfl⟩
  rw [HZ.out]
  go_wp2_with fail
  generalize (w.alloc (.cells #[.slice pA places.length pc, .int .i64 mux, .int .i64 ato, .slice cA chans.length cc, .slice (some ⟨b1, o1, none⟩) funcs.length fc, .int .i64 (n : Int), .slice bA body.length bc] 31)) = W0 at S0 c2 ⊢
  clear HZ dpa c2 d0 d1 d2 d3 d4 d5 d6 d7 hn
  go_loopw [83] (fun iv wr => ∃ k : Nat, k ≤ places.length ∧ iv = .int .i64 k ∧ Hid ((places.take k).all tyB = true) ∧ Hid (ShR w wr ⟨pA, pc, places, mux, ato, cA, cc, chans, (some ⟨b1, o1, none⟩), fc, funcs, (n : Int), bA, bc, body⟩)) (fun iv _ => places.length - (intOf iv).toNat)
  case atStart => exact ⟨0, Nat.zero_le _, rfl, by show _ = _; simp, S0⟩
  case round =>
    clear S0
    obtain ⟨k, hk, rfl, hP, HT⟩ := hrel
    by_cases hlt : k < places.length
    · obtain ⟨x, hx⟩ : ∃ x, places[k]? = some x := ⟨_, List.getElem?_eq_getElem hlt⟩
      obtain ⟨b2, o2, ea2, cx⟩ := rs_ri HT.out.rep.pl k x hx
      dsimp only at ea2
      subst ea2
      obtain ⟨z, hz⟩ : ∃ z, tyB x = z := ⟨_, rfl⟩
      have HZ := Lib.hid hz
      cases z
      · have E : Hid (S = false) := by show _ = _; rw [HE.out, all_bad hx hz]; rfl
        clear hx hz HE
        go_wp2_with fail
        refine (rtyp_any _ _).mono ?_
        rintro e w' ⟨rfl, rfl⟩
        rw [HZ.out]
        go_wp2_with fail
        go_ret
        exact ⟨by rw [E.out]; rfl, HT.out.bl⟩
      · have HP := Lib.hid (all_next hx hP.out hz)
        clear hx hz hP
        go_wp2_with fail
        refine (rtyp_any _ _).mono ?_
        rintro e w' ⟨rfl, rfl⟩
        rw [HZ.out]
        go_wp2_with fail
        go_roundw
        case rel => exact ⟨k + 1, by omega, by go_num, HP, HT⟩
        case measure => simp [intOf]; omega
    · have HE2 : Hid (S = ((chans.all chB && fnsB (-1) 0 body.length funcs) && body.all (insB ⟨pA, pc, places, mux, ato, cA, cc, chans, (some ⟨b1, o1, none⟩), fc, funcs, (n : Int), bA, bc, body⟩))) := by
        show _ = _
        have := hP.out
        rw [List.take_of_length_le (by omega)] at this
        rw [HE.out, this, Bool.true_and]
      clear HE hP
      obtain ⟨q0, q1, q2, q3, q4, q5, q6⟩ := HT.out.box
      dsimp only at q3
      clear q0 q1 q2 q4 q5 q6
      go_wp2_with fail
      clear q3
      go_loopw [94] (fun iv wr => ∃ k : Nat, k ≤ chans.length ∧ iv = .int .i64 k ∧ Hid ((chans.take k).all chB = true) ∧ Hid (ShR w wr ⟨pA, pc, places, mux, ato, cA, cc, chans, (some ⟨b1, o1, none⟩), fc, funcs, (n : Int), bA, bc, body⟩)) (fun iv _ => chans.length - (intOf iv).toNat)
      case atStart => exact ⟨0, Nat.zero_le _, rfl, by show _ = _; simp, HT⟩
      case round =>
        clear HT hlt hk
        obtain ⟨k, hk, rfl, hP, HT⟩ := hrel
        by_cases hlt : k < chans.length
        · obtain ⟨x, hx⟩ : ∃ x, chans[k]? = some x := ⟨_, List.getElem?_eq_getElem hlt⟩
          obtain ⟨b2, o2, ea2, cx1, cx2⟩ := ch_at HT.out.rep.ch k x hx
          dsimp only at ea2
          subst ea2
          have HT2 := Lib.hid (HT.out.later (below_alloc (Below.refl wr.heap.size wr) (.cells #[.int .i64 x.1, .int .i64 x.2] 70)))
          obtain ⟨z, hz⟩ : ∃ z, tyB x.1 = z := ⟨_, rfl⟩
          have HZ := Lib.hid hz
          cases z
          · have E : Hid (S = false) := by show _ = _; rw [HE2.out, all_bad hx (show chB x = false by unfold chB; rw [hz]; rfl)]; rfl
            clear hx hz HE2
            go_wp2_with fail
            refine (rtyp_any _ _).mono ?_
            rintro e w' ⟨rfl, rfl⟩
            rw [HZ.out]
            go_wp2_with fail
            go_ret
            exact ⟨by rw [E.out]; rfl, HT2.out.bl⟩
          by_cases g0 : x.2 < 0
          · have gd0 : decide (x.2 < 0) = true := decide_eq_true g0
            have E : Hid (S = false) := by show _ = _; rw [HE2.out, all_bad hx (show chB x = false by unfold chB; rw [wB_f (by omega), Bool.and_false])]; rfl
            clear hx hz HE2
            go_wp2_with fail
            refine (rtyp_any _ _).mono ?_
            rintro e w' ⟨rfl, rfl⟩
            rw [HZ.out]
            go_wp2_with fail
            go_ret
            exact ⟨by rw [E.out]; rfl, HT2.out.bl⟩
          have gd0 : decide (x.2 < 0) = false := decide_eq_false g0
          by_cases g1 : 8 < x.2
          · have gd1 : decide (8 < x.2) = true := decide_eq_true g1
            have E : Hid (S = false) := by show _ = _; rw [HE2.out, all_bad hx (show chB x = false by unfold chB; rw [wB_f (by omega), Bool.and_false])]; rfl
            clear hx hz HE2
            go_wp2_with fail
            refine (rtyp_any _ _).mono ?_
            rintro e w' ⟨rfl, rfl⟩
            rw [HZ.out]
            go_wp2_with fail
            go_ret
            exact ⟨by rw [E.out]; rfl, HT2.out.bl⟩
          have gd1 : decide (8 < x.2) = false := decide_eq_false g1
          have HP := Lib.hid (all_next hx hP.out (show chB x = true by unfold chB; rw [hz, wB_t (by omega) (by omega)]; rfl))
          clear hx hz hP
          go_wp2_with fail
          refine (rtyp_any _ _).mono ?_
          rintro e w' ⟨rfl, rfl⟩
          rw [HZ.out]
          go_wp2_with fail
          go_roundw
          case rel => exact ⟨k + 1, by omega, by go_num, HP, HT2⟩
          case measure => simp [intOf]; omega
        · have HE3 : Hid (S = (fnsB (-1) 0 body.length funcs && body.all (insB ⟨pA, pc, places, mux, ato, cA, cc, chans, (some ⟨b1, o1, none⟩), fc, funcs, (n : Int), bA, bc, body⟩))) := by
            show _ = _
            have := hP.out
            rw [List.take_of_length_le (by omega)] at this
            rw [HE2.out, this, Bool.true_and]
          clear HE2 hP
          obtain ⟨q0, q1, q2, q3, q4, q5, q6⟩ := HT.out.box
          dsimp only at q4
          clear q0 q1 q2 q3 q5 q6
          go_wp2_with fail
          clear q4
          go_loopw [116] (fun iv wr => ∃ k : Nat, k ≤ funcs.length ∧ iv = .int .i64 k ∧ -1 ≤ ahead funcs k ∧ Hid (fnsB (-1) 0 body.length funcs = fnsB (ahead funcs k) k body.length (funcs.drop k)) ∧ Hid (ShR w wr ⟨pA, pc, places, mux, ato, cA, cc, chans, (some ⟨b1, o1, none⟩), fc, funcs, (n : Int), bA, bc, body⟩)) (fun iv _ => funcs.length - (intOf iv).toNat)
          case atStart => exact ⟨0, Nat.zero_le _, rfl, by simp [ahead], rfl, HT⟩
          case round =>
            clear HT hlt hk
            obtain ⟨k, hk, rfl, hah, hP, HT⟩ := hrel
            by_cases hlt : k < funcs.length
            · obtain ⟨x, hx⟩ : ∃ x, funcs[k]? = some x := ⟨_, List.getElem?_eq_getElem hlt⟩
              obtain ⟨b2, o2, ea2, cx1, cx2, cx3⟩ := fn_at HT.out.rep.fn k x hx
              have ea3 : (⟨b1, o1, none⟩ : Addr) = ⟨b2, o2, none⟩ := Option.some.inj ea2
              injection ea3 with u1 u2
              subst u1 u2
              clear ea2
              obtain ⟨rx, nx⟩ := HT.out.rep.lo x (List.mem_of_getElem? hx)
              obtain ⟨xA, hxA⟩ : ∃ A, x.lA = A := ⟨_, rfl⟩
              rw [hxA] at cx3 rx
              clear hxA
              have HT2 := Lib.hid (HT.out.later (below_alloc (Below.refl wr.heap.size wr) (.cells #[.int .i64 x.st, .int .i64 x.pa, .slice xA x.locals.length x.lc] 26)))
              have HRX := Lib.hid rx
              have HX := Lib.hid hx
              have HXN := Lib.hid (ahead_next hx)
              clear rx
              have HBAD : Hid (fnB (ahead funcs k) k body.length x = false → S = false) := fun hb => by rw [HE3.out, hP.out, fnB_bad hb hx rfl]; rfl
              obtain ⟨z, hz⟩ : ∃ z, wB x.st 0 ((body.length : Int) - 1) = z := ⟨_, rfl⟩
              have HZ := Lib.hid hz
              obtain ⟨q0, q1, q2, q3, q4, q5, q6⟩ := HT2.out.box
              dsimp only at q4 q6
              clear q0 q1 q2 q3 q5
              clear hx
              cases z
              · have hst : ¬ (0 ≤ x.st ∧ x.st < (body.length : Int)) := fun hh => by rw [wB_t (by omega) (by omega)] at hz; cases hz
                by_cases hk0 : k = 0
                · subst hk0
                  simp only [Nat.zero_mul, Nat.add_zero] at cx1 cx2 cx3
                  have E := Lib.hid (HBAD.out (by
                    unfold fnB
                    by_cases hs : x.st ≤ ahead funcs 0
                    · simp [hs]
                    · have : ahead funcs 0 = -1 := rfl
                      simp [show ¬ x.st < (body.length : Int) by omega]))
                  clear HBAD HE3 hP HXN HX HRX hz
                  go_wp2_with fail
                  go_quiet ((exact in_quiet HZ.out _ _))
                  go_wp2_with fail
                  go_ret
                  exact ⟨by rw [E.out]; rfl, (HT2.out.later (below_qn _ _)).bl⟩
                · have hk1 : ((k : Int) == 0) = false := by simpa using hk0
                  have hk2 : decide (0 < (k : Int)) = true := decide_eq_true (by omega)
                  have E := Lib.hid (HBAD.out (by
                    unfold fnB
                    by_cases hs : x.st ≤ ahead funcs k
                    · simp [hs]
                    · simp [show ¬ x.st < (body.length : Int) by omega]))
                  clear HBAD HE3 hP HXN HX HRX hz
                  go_wp2_with fail
                  go_quiet ((exact in_quiet HZ.out _ _))
                  go_wp2_with fail
                  go_ret
                  exact ⟨by rw [E.out]; rfl, (HT2.out.later (below_qn _ _)).bl⟩
              obtain ⟨hs0, hs1⟩ := (wB_iff _ _ _).1 hz
              by_cases hk0 : k = 0
              · subst hk0
                simp only [Nat.zero_mul, Nat.add_zero] at cx1 cx2 cx3
                by_cases hst0 : x.st = 0
                rotate_left
                · have gst : (x.st != 0) = true := by simpa using hst0
                  have E := Lib.hid (HBAD.out (by unfold fnB; simp [hst0]))
                  clear HBAD HE3 hP HXN HX HRX hz
                  go_wp2_with fail
                  go_quiet ((exact in_quiet HZ.out _ _))
                  go_wp2_with fail
                  go_ret
                  exact ⟨by rw [E.out]; rfl, (HT2.out.later (below_qn _ _)).bl⟩
                have gst : (x.st != 0) = false := by simpa using hst0
                have HST := Lib.hid hst0
                clear hst0
                by_cases g0 : x.pa < 0
                · have gd0 : decide (x.pa < 0) = true := decide_eq_true g0
                  have E := Lib.hid (HBAD.out (by unfold fnB; rw [show wB x.pa 0 (min 4 (x.locals.length : Int)) = false from wB_f (by omega)]; simp))
                  clear HBAD HE3 hP HXN HX HRX hz
                  go_wp2_with fail
                  go_quiet ((exact in_quiet HZ.out _ _))
                  go_wp2_with fail
                  go_ret
                  exact ⟨by rw [E.out]; rfl, (HT2.out.later (below_qn _ _)).bl⟩
                have gd0 : decide (x.pa < 0) = false := decide_eq_false g0
                by_cases g1 : 4 < x.pa
                · have gd1 : decide (4 < x.pa) = true := decide_eq_true g1
                  have E := Lib.hid (HBAD.out (by unfold fnB; rw [show wB x.pa 0 (min 4 (x.locals.length : Int)) = false from wB_f (by omega)]; simp))
                  clear HBAD HE3 hP HXN HX HRX hz
                  go_wp2_with fail
                  go_quiet ((exact in_quiet HZ.out _ _))
                  go_wp2_with fail
                  go_ret
                  exact ⟨by rw [E.out]; rfl, (HT2.out.later (below_qn _ _)).bl⟩
                have gd1 : decide (4 < x.pa) = false := decide_eq_false g1
                by_cases g2 : (x.locals.length : Int) < x.pa
                · have gd2 : decide ((x.locals.length : Int) < x.pa) = true := decide_eq_true g2
                  have E := Lib.hid (HBAD.out (by unfold fnB; rw [show wB x.pa 0 (min 4 (x.locals.length : Int)) = false from wB_f (by omega)]; simp))
                  clear HBAD HE3 hP HXN HX HRX hz
                  go_wp2_with fail
                  go_quiet ((exact in_quiet HZ.out _ _))
                  go_wp2_with fail
                  go_ret
                  exact ⟨by rw [E.out]; rfl, (HT2.out.later (below_qn _ _)).bl⟩
                have gd2 : decide ((x.locals.length : Int) < x.pa) = false := decide_eq_false g2
                by_cases g3 : 32 < (x.locals.length : Int)
                · have gd3 : decide (32 < (x.locals.length : Int)) = true := decide_eq_true g3
                  have E := Lib.hid (HBAD.out (by unfold fnB; simp [show ¬ x.locals.length ≤ 32 by omega]))
                  clear HBAD HE3 hP HXN HX HRX hz
                  go_wp2_with fail
                  go_quiet ((exact in_quiet HZ.out _ _))
                  go_wp2_with fail
                  go_ret
                  exact ⟨by rw [E.out]; rfl, (HT2.out.later (below_qn _ _)).bl⟩
                have gd3 : decide (32 < (x.locals.length : Int)) = false := decide_eq_false g3
                have HG : Hid (fnB (ahead funcs 0) 0 body.length x = x.locals.all tyB) := by
                  show _ = _
                  exact fnB_zero HST.out (by omega) (by omega) (by omega) (by omega) (by omega)
                clear hz
                go_wp2_with fail
                go_quiet ((exact in_quiet HZ.out _ _))
                have HT3 := Lib.hid (HT2.out.later (below_qn _ nq))
                have HR3 := Lib.hid ((HRX.out.later (below_alloc (Below.refl wr.heap.size wr) (.cells #[.int .i64 x.st, .int .i64 x.pa, .slice xA x.locals.length x.lc] 26))).later (below_qn _ nq))
                clear HRX
                go_wp2_with fail
                generalize ((wr.alloc (.cells #[.int .i64 x.st, .int .i64 x.pa, .slice xA x.locals.length x.lc] 26)).drewN nq) = wq at HT3 HR3 ⊢
                clear HT HT2 cx1 cx2 cx3 q4 q6
                go_loopw [180] (fun iv wt => ∃ j : Nat, j ≤ x.locals.length ∧ iv = .int .i64 j ∧ Hid ((x.locals.take j).all tyB = true) ∧ wt = wq) (fun iv _ => x.locals.length - (intOf iv).toNat)
                case atStart => exact ⟨0, Nat.zero_le _, rfl, by show _ = _; simp, rfl⟩
                case round =>
                  obtain ⟨j, hj, rfl, hQ, rfl⟩ := hrel
                  by_cases hjl : j < x.locals.length
                  · obtain ⟨y, hy⟩ : ∃ y, x.locals[j]? = some y := ⟨_, List.getElem?_eq_getElem hjl⟩
                    obtain ⟨b3, o3, ea4, cy⟩ := rs_ri HR3.out j y hy
                    subst ea4
                    obtain ⟨v, hv⟩ : ∃ v, tyB y = v := ⟨_, rfl⟩
                    have HV := Lib.hid hv
                    cases v
                    · have E : Hid (S = false) := HBAD.out (by rw [HG.out]; exact all_bad hy hv)
                      clear hy hv HBAD HE3 hP HXN HX HG hQ
                      go_wp2_with fail
                      refine (rtyp_any _ _).mono ?_
                      rintro e w' ⟨rfl, rfl⟩
                      rw [HV.out]
                      go_wp2_with fail
                      go_ret
                      exact ⟨by rw [E.out]; rfl, HT3.out.bl⟩
                    · have HQ := Lib.hid (all_next hy hQ.out hv)
                      clear hy hv hQ
                      go_wp2_with fail
                      refine (rtyp_any _ _).mono ?_
                      rintro e w' ⟨rfl, rfl⟩
                      rw [HV.out]
                      go_wp2_with fail
                      go_roundw
                      case rel => exact ⟨j + 1, by omega, by go_num, HQ, by first | trivial | rfl⟩
                      case measure => simp [intOf]; omega
                  · have HN : Hid (fnsB (-1) 0 body.length funcs = fnsB (ahead funcs (0 + 1)) (0 + 1) body.length (funcs.drop (0 + 1))) := by
                      show _ = _
                      have := hQ.out
                      rw [List.take_of_length_le (by omega)] at this
                      rw [hP.out, fnsB_drop HX.out, HG.out, this, HXN.out, Bool.true_and]
                    have hah' : -1 ≤ ahead funcs (0 + 1) := by rw [HXN.out]; omega
                    clear hP HG HX HXN HBAD hQ
                    go_wp2_with fail
                    go_roundw
                    case rel => exact ⟨0 + 1, by omega, by go_num, hah', HN, HT3⟩
                    case measure => simp [intOf]; omega
              obtain ⟨k', rfl⟩ : ∃ k', k = k' + 1 := ⟨k - 1, by omega⟩
              have hk1 : (((k' + 1 : Nat) : Int) == 0) = false := by rw [beq_eq_false_iff_ne]; omega
              have hk2 : decide (0 < ((k' + 1 : Nat) : Int)) = true := decide_eq_true (by omega)
              have hk3 : (k' : Int) < (funcs.length : Int) := by omega
              have hk4 : (0 : Int) ≤ (k' : Int) := by omega
              obtain ⟨y, hy⟩ : ∃ y, funcs[k']? = some y := ⟨_, List.getElem?_eq_getElem (by omega)⟩
              obtain ⟨b2, o2, ea2, cy1, cy2, cy3⟩ := fn_at HT2.out.rep.fn k' y hy
              have ea3 : (⟨b1, o1, none⟩ : Addr) = ⟨b2, o2, none⟩ := Option.some.inj ea2
              injection ea3 with u1 u2
              subst u1 u2
              clear ea2 cy2 cy3
              have hy2 : ahead funcs (k' + 1) = y.st := ahead_next hy
              clear hy
              by_cases hle : x.st ≤ y.st
              · have gle : decide (x.st ≤ y.st) = true := decide_eq_true hle
                have E := Lib.hid (HBAD.out (by unfold fnB; rw [hy2]; simp [hle]))
                clear HBAD HE3 hP HXN HX HRX hz
                go_wp2_with fail
                have kw1 : IntKind.i64.wrap ((k' : Int) + 1 - 1) = (k' : Int) := by rw [Int.add_sub_cancel]; exact IntWalk.i64_in _ (by omega)
                have kw2 : IntKind.i64.wrap (k' : Int) = (k' : Int) := IntWalk.i64_in _ (by omega)
                refine wp_region_quiet_lit (by kernel_rfl) (by kernel_rfl) ?_
                repeat (first | go_big_quiet_step (((exact in_quiet HZ.out _ _))) | quiet_step ((exact in_quiet HZ.out _ _)))
                refine wpQuiet_nil ?_
                intro _ hw'
                obtain ⟨nq, hw''⟩ := hw'
                subst hw''
                go_wp2_with fail
                go_ret
                exact ⟨by rw [E.out]; rfl, (HT2.out.later (below_qn _ _)).bl⟩
              have gle : decide (x.st ≤ y.st) = false := decide_eq_false hle
              by_cases g0 : x.pa < 0
              · have gd0 : decide (x.pa < 0) = true := decide_eq_true g0
                have E := Lib.hid (HBAD.out (by unfold fnB; rw [show wB x.pa 0 (min 4 (x.locals.length : Int)) = false from wB_f (by omega)]; simp))
                clear HBAD HE3 hP HXN HX HRX hz
                go_wp2_with fail
                have kw1 : IntKind.i64.wrap ((k' : Int) + 1 - 1) = (k' : Int) := by rw [Int.add_sub_cancel]; exact IntWalk.i64_in _ (by omega)
                have kw2 : IntKind.i64.wrap (k' : Int) = (k' : Int) := IntWalk.i64_in _ (by omega)
                refine wp_region_quiet_lit (by kernel_rfl) (by kernel_rfl) ?_
                repeat (first | go_big_quiet_step (((exact in_quiet HZ.out _ _))) | quiet_step ((exact in_quiet HZ.out _ _)))
                refine wpQuiet_nil ?_
                intro _ hw'
                obtain ⟨nq, hw''⟩ := hw'
                subst hw''
                go_wp2_with fail
                go_ret
                exact ⟨by rw [E.out]; rfl, (HT2.out.later (below_qn _ _)).bl⟩
              have gd0 : decide (x.pa < 0) = false := decide_eq_false g0
              by_cases g1 : 4 < x.pa
              · have gd1 : decide (4 < x.pa) = true := decide_eq_true g1
                have E := Lib.hid (HBAD.out (by unfold fnB; rw [show wB x.pa 0 (min 4 (x.locals.length : Int)) = false from wB_f (by omega)]; simp))
                clear HBAD HE3 hP HXN HX HRX hz
                go_wp2_with fail
                have kw1 : IntKind.i64.wrap ((k' : Int) + 1 - 1) = (k' : Int) := by rw [Int.add_sub_cancel]; exact IntWalk.i64_in _ (by omega)
                have kw2 : IntKind.i64.wrap (k' : Int) = (k' : Int) := IntWalk.i64_in _ (by omega)
                refine wp_region_quiet_lit (by kernel_rfl) (by kernel_rfl) ?_
                repeat (first | go_big_quiet_step (((exact in_quiet HZ.out _ _))) | quiet_step ((exact in_quiet HZ.out _ _)))
                refine wpQuiet_nil ?_
                intro _ hw'
                obtain ⟨nq, hw''⟩ := hw'
                subst hw''
                go_wp2_with fail
                go_ret
                exact ⟨by rw [E.out]; rfl, (HT2.out.later (below_qn _ _)).bl⟩
              have gd1 : decide (4 < x.pa) = false := decide_eq_false g1
              by_cases g2 : (x.locals.length : Int) < x.pa
              · have gd2 : decide ((x.locals.length : Int) < x.pa) = true := decide_eq_true g2
                have E := Lib.hid (HBAD.out (by unfold fnB; rw [show wB x.pa 0 (min 4 (x.locals.length : Int)) = false from wB_f (by omega)]; simp))
                clear HBAD HE3 hP HXN HX HRX hz
                go_wp2_with fail
                have kw1 : IntKind.i64.wrap ((k' : Int) + 1 - 1) = (k' : Int) := by rw [Int.add_sub_cancel]; exact IntWalk.i64_in _ (by omega)
                have kw2 : IntKind.i64.wrap (k' : Int) = (k' : Int) := IntWalk.i64_in _ (by omega)
                refine wp_region_quiet_lit (by kernel_rfl) (by kernel_rfl) ?_
                repeat (first | go_big_quiet_step (((exact in_quiet HZ.out _ _))) | quiet_step ((exact in_quiet HZ.out _ _)))
                refine wpQuiet_nil ?_
                intro _ hw'
                obtain ⟨nq, hw''⟩ := hw'
                subst hw''
                go_wp2_with fail
                go_ret
                exact ⟨by rw [E.out]; rfl, (HT2.out.later (below_qn _ _)).bl⟩
              have gd2 : decide ((x.locals.length : Int) < x.pa) = false := decide_eq_false g2
              by_cases g3 : 32 < (x.locals.length : Int)
              · have gd3 : decide (32 < (x.locals.length : Int)) = true := decide_eq_true g3
                have E := Lib.hid (HBAD.out (by unfold fnB; simp [show ¬ x.locals.length ≤ 32 by omega]))
                clear HBAD HE3 hP HXN HX HRX hz
                go_wp2_with fail
                have kw1 : IntKind.i64.wrap ((k' : Int) + 1 - 1) = (k' : Int) := by rw [Int.add_sub_cancel]; exact IntWalk.i64_in _ (by omega)
                have kw2 : IntKind.i64.wrap (k' : Int) = (k' : Int) := IntWalk.i64_in _ (by omega)
                refine wp_region_quiet_lit (by kernel_rfl) (by kernel_rfl) ?_
                repeat (first | go_big_quiet_step (((exact in_quiet HZ.out _ _))) | quiet_step ((exact in_quiet HZ.out _ _)))
                refine wpQuiet_nil ?_
                intro _ hw'
                obtain ⟨nq, hw''⟩ := hw'
                subst hw''
                go_wp2_with fail
                go_ret
                exact ⟨by rw [E.out]; rfl, (HT2.out.later (below_qn _ _)).bl⟩
              have gd3 : decide (32 < (x.locals.length : Int)) = false := decide_eq_false g3
              have HG : Hid (fnB (ahead funcs (k' + 1)) (k' + 1) body.length x = x.locals.all tyB) := by
                show _ = _
                rw [hy2]; exact fnB_pos (by omega) (by omega) (by omega) (by omega) (by omega) (by omega) (by omega)
              clear hz
              go_wp2_with fail
              have kw1 : IntKind.i64.wrap ((k' : Int) + 1 - 1) = (k' : Int) := by rw [Int.add_sub_cancel]; exact IntWalk.i64_in _ (by omega)
              have kw2 : IntKind.i64.wrap (k' : Int) = (k' : Int) := IntWalk.i64_in _ (by omega)
              refine wp_region_quiet_lit (by kernel_rfl) (by kernel_rfl) ?_
              repeat (first | go_big_quiet_step (((exact in_quiet HZ.out _ _))) | quiet_step ((exact in_quiet HZ.out _ _)))
              refine wpQuiet_nil ?_
              intro _ hw'
              obtain ⟨nq, hw''⟩ := hw'
              subst hw''
              clear kw1 kw2
              have HT3 := Lib.hid (HT2.out.later (below_qn _ nq))
              have HR3 := Lib.hid ((HRX.out.later (below_alloc (Below.refl wr.heap.size wr) (.cells #[.int .i64 x.st, .int .i64 x.pa, .slice xA x.locals.length x.lc] 26))).later (below_qn _ nq))
              clear HRX
              go_wp2_with fail
              generalize ((wr.alloc (.cells #[.int .i64 x.st, .int .i64 x.pa, .slice xA x.locals.length x.lc] 26)).drewN nq) = wq at HT3 HR3 ⊢
              clear HT HT2 cx1 cx2 cx3 q4 q6
              go_loopw [180] (fun iv wt => ∃ j : Nat, j ≤ x.locals.length ∧ iv = .int .i64 j ∧ Hid ((x.locals.take j).all tyB = true) ∧ wt = wq) (fun iv _ => x.locals.length - (intOf iv).toNat)
              case atStart => exact ⟨0, Nat.zero_le _, rfl, by show _ = _; simp, rfl⟩
              case round =>
                obtain ⟨j, hj, rfl, hQ, rfl⟩ := hrel
                by_cases hjl : j < x.locals.length
                · obtain ⟨y, hy⟩ : ∃ y, x.locals[j]? = some y := ⟨_, List.getElem?_eq_getElem hjl⟩
                  obtain ⟨b3, o3, ea4, cy⟩ := rs_ri HR3.out j y hy
                  subst ea4
                  obtain ⟨v, hv⟩ : ∃ v, tyB y = v := ⟨_, rfl⟩
                  have HV := Lib.hid hv
                  cases v
                  · have E : Hid (S = false) := HBAD.out (by rw [HG.out]; exact all_bad hy hv)
                    clear hy hv HBAD HE3 hP HXN HX HG hQ
                    go_wp2_with fail
                    refine (rtyp_any _ _).mono ?_
                    rintro e w' ⟨rfl, rfl⟩
                    rw [HV.out]
                    go_wp2_with fail
                    go_ret
                    exact ⟨by rw [E.out]; rfl, HT3.out.bl⟩
                  · have HQ := Lib.hid (all_next hy hQ.out hv)
                    clear hy hv hQ
                    go_wp2_with fail
                    refine (rtyp_any _ _).mono ?_
                    rintro e w' ⟨rfl, rfl⟩
                    rw [HV.out]
                    go_wp2_with fail
                    go_roundw
                    case rel => exact ⟨j + 1, by omega, by go_num, HQ, by first | trivial | rfl⟩
                    case measure => simp [intOf]; omega
                · have HN : Hid (fnsB (-1) 0 body.length funcs = fnsB (ahead funcs (k' + 1 + 1)) (k' + 1 + 1) body.length (funcs.drop (k' + 1 + 1))) := by
                    show _ = _
                    have := hQ.out
                    rw [List.take_of_length_le (by omega)] at this
                    rw [hP.out, fnsB_drop HX.out, HG.out, this, HXN.out, Bool.true_and]
                  have hah' : -1 ≤ ahead funcs (k' + 1 + 1) := by rw [HXN.out]; omega
                  clear hP HG HX HXN HBAD hQ
                  go_wp2_with fail
                  go_roundw
                  case rel => exact ⟨k' + 1 + 1, by omega, by go_num, hah', HN, HT3⟩
                  case measure => simp [intOf]; omega
            · have HE4 : Hid (S = body.all (insB ⟨pA, pc, places, mux, ato, cA, cc, chans, (some ⟨b1, o1, none⟩), fc, funcs, (n : Int), bA, bc, body⟩)) := by
                show _ = _
                rw [HE3.out, hP.out, List.drop_eq_nil_of_le (by omega)]
                simp [fnsB]
              clear HE3 hP
              obtain ⟨q0, q1, q2, q3, q4, q5, q6⟩ := HT.out.box
              dsimp only at q6
              clear q0 q1 q2 q3 q4 q5
              go_wp2_with fail
              clear q6
              go_loopw [192] (fun iv wr => ∃ k : Nat, k ≤ body.length ∧ iv = .int .i64 k ∧ Hid ((body.take k).all (insB ⟨pA, pc, places, mux, ato, cA, cc, chans, (some ⟨b1, o1, none⟩), fc, funcs, (n : Int), bA, bc, body⟩) = true) ∧ Hid (ShR w wr ⟨pA, pc, places, mux, ato, cA, cc, chans, (some ⟨b1, o1, none⟩), fc, funcs, (n : Int), bA, bc, body⟩)) (fun iv _ => body.length - (intOf iv).toNat)
              case atStart => exact ⟨0, Nat.zero_le _, rfl, by show _ = _; simp, HT⟩
              case round =>
                clear HT hlt hk
                obtain ⟨k, hk, rfl, hP, HT⟩ := hrel
                by_cases hlt : k < body.length
                · obtain ⟨x, hx⟩ : ∃ x, body[k]? = some x := ⟨_, List.getElem?_eq_getElem hlt⟩
                  obtain ⟨b2, o2, ea2, cx1, cx2, cx3, cx4, cx5⟩ := ins_at HT.out.rep.bo k x hx
                  dsimp only at ea2
                  subst ea2
                  have HT2 := Lib.hid (HT.out.later (below_alloc (Below.refl wr.heap.size wr) (.cells #[.int .i64 x.op, .int .i64 x.a, .int .i64 x.b, .int .u64 x.bits, .int .i64 x.at_] 34)))
                  obtain ⟨q0, q1, q2, q3, q4, q5, q6⟩ := HT2.out.box
                  dsimp only at q0 q1 q2 q3 q4 q5 q6
                  obtain ⟨z, hz⟩ : ∃ z, insB ⟨pA, pc, places, mux, ato, cA, cc, chans, (some ⟨b1, o1, none⟩), fc, funcs, (n : Int), (some ⟨b2, o2, none⟩), bc, body⟩ x = z := ⟨_, rfl⟩
                  have HZ := Lib.hid hz
                  cases z
                  · have E : Hid (S = false) := by show _ = _; rw [HE4.out, all_bad hx hz]
                    clear hx hz HE4 hP
                    go_wp2_with fail
                    refine (refInstr_any ⟨pA, pc, places, mux, ato, cA, cc, chans, (some ⟨b1, o1, none⟩), fc, funcs, (n : Int), (some ⟨b2, o2, none⟩), bc, body⟩ x _ HT2.out.rep HBD.out).mono ?_
                    rintro e w3 ⟨rfl, hb3⟩
                    rw [HZ.out]
                    have HT3 := Lib.hid (HT2.out.later hb3)
                    clear hb3
                    go_wp2_with fail
                    go_ret
                    exact ⟨by rw [E.out]; rfl, HT3.out.bl⟩
                  · have HP := Lib.hid (all_next hx hP.out hz)
                    clear hx hz hP
                    go_wp2_with fail
                    refine (refInstr_any ⟨pA, pc, places, mux, ato, cA, cc, chans, (some ⟨b1, o1, none⟩), fc, funcs, (n : Int), (some ⟨b2, o2, none⟩), bc, body⟩ x _ HT2.out.rep HBD.out).mono ?_
                    rintro e w3 ⟨rfl, hb3⟩
                    rw [HZ.out]
                    have HT3 := Lib.hid (HT2.out.later hb3)
                    clear hb3
                    go_wp2_with fail
                    go_roundw
                    case rel => exact ⟨k + 1, by omega, by go_num, HP, HT3⟩
                    case measure => simp [intOf]; omega
                · have HF : Hid (S = true) := by
                    show _ = _
                    have := hP.out
                    rw [List.take_of_length_le (by omega)] at this
                    rw [HE4.out, this]
                  clear HE4 hP
                  go_wp2_with fail
                  go_ret
                  exact ⟨by rw [HF.out]; rfl, HT.out.bl⟩
end Go.Proofs.YtbpbimkadiobfaaDoor
