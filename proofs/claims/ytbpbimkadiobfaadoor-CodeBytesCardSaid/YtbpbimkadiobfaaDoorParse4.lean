/-
  A code in form: its numbers are borne by its bytes.
-/
import Derived.Test.YtbpbimkadiobfaaDoorParse3
import Derived.Test.YtbpbimkadiobfaaDoorArgs14
namespace Go.Proofs.YtbpbimkadiobfaaDoor
open Go.RowKit Go.Stk

theorem b0_of {p q : Bool} {b : Int} (h : (p && (decide (b = 0) && q)) = true) : 0 ≤ b ∧ b < 4294967296 := by
  simp only [Bool.and_eq_true, decide_eq_true_eq] at h
  omega
theorem bw_of {p q : Bool} {b : Int} (h : (p && (wB b 0 1 && q)) = true) : 0 ≤ b ∧ b < 4294967296 := by
  simp only [Bool.and_eq_true, wB_iff] at h
  omega
theorem ba_of {c : Co} {q : Bool} {a b : Int} (h : (arrB c a b && q) = true) : 0 ≤ b ∧ b < 4294967296 := by
  simp only [arrB, Bool.and_eq_true, wB_iff] at h
  omega
theorem b2_of {p : Bool} {b : Int} (h : (p && decide (b = 0)) = true) : 0 ≤ b ∧ b < 4294967296 := by
  simp only [Bool.and_eq_true, decide_eq_true_eq] at h
  omega
theorem op_range {c : Co} {x : Ins} (h : opB c x = true) : (0 ≤ x.op ∧ x.op < 256) ∧ U32 x.b := by
  unfold opB at h
  by_cases h1 : x.op = 1
  · rw [if_pos h1] at h
    exact ⟨by omega, b0_of h⟩
  rw [if_neg h1] at h
  by_cases h2 : x.op = 2
  · rw [if_pos h2] at h
    exact ⟨by omega, b2_of h⟩
  rw [if_neg h2] at h
  by_cases h3 : x.op = 3
  · rw [if_pos h3] at h
    exact ⟨by omega, b0_of h⟩
  rw [if_neg h3] at h
  by_cases h4 : x.op = 4
  · rw [if_pos h4] at h
    exact ⟨by omega, b0_of h⟩
  rw [if_neg h4] at h
  by_cases h5 : x.op = 5
  · rw [if_pos h5] at h
    exact ⟨by omega, b0_of h⟩
  rw [if_neg h5] at h
  by_cases h6 : x.op = 6
  · rw [if_pos h6] at h
    exact ⟨by omega, b0_of h⟩
  rw [if_neg h6] at h
  by_cases h7 : x.op = 7
  · rw [if_pos h7] at h
    exact ⟨by omega, b0_of h⟩
  rw [if_neg h7] at h
  by_cases h8 : x.op = 8
  · rw [if_pos h8] at h
    exact ⟨by omega, ba_of h⟩
  rw [if_neg h8] at h
  by_cases h9 : x.op = 9
  · rw [if_pos h9] at h
    exact ⟨by omega, ba_of h⟩
  rw [if_neg h9] at h
  by_cases h10 : x.op = 10
  · rw [if_pos h10] at h
    exact ⟨by omega, b0_of h⟩
  rw [if_neg h10] at h
  by_cases h11 : x.op = 11
  · rw [if_pos h11] at h
    exact ⟨by omega, b0_of h⟩
  rw [if_neg h11] at h
  by_cases h12 : x.op = 12
  · rw [if_pos h12] at h
    exact ⟨by omega, b0_of h⟩
  rw [if_neg h12] at h
  by_cases h13 : x.op = 13
  · rw [if_pos h13] at h
    exact ⟨by omega, bw_of h⟩
  rw [if_neg h13] at h
  by_cases h14 : x.op = 14
  · rw [if_pos h14] at h
    exact ⟨by omega, bw_of h⟩
  rw [if_neg h14] at h
  by_cases h15 : x.op = 15
  · rw [if_pos h15] at h
    exact ⟨by omega, b0_of h⟩
  rw [if_neg h15] at h
  by_cases h16 : x.op = 16
  · rw [if_pos h16] at h
    exact ⟨by omega, b0_of h⟩
  rw [if_neg h16] at h
  by_cases h17 : x.op = 17
  · rw [if_pos h17] at h
    exact ⟨by omega, b0_of h⟩
  rw [if_neg h17] at h
  by_cases h18 : x.op = 18
  · rw [if_pos h18] at h
    exact ⟨by omega, b0_of h⟩
  rw [if_neg h18] at h
  by_cases h19 : x.op = 19
  · rw [if_pos h19] at h
    exact ⟨by omega, b0_of h⟩
  rw [if_neg h19] at h
  by_cases h20 : x.op = 20
  · rw [if_pos h20] at h
    exact ⟨by omega, b0_of h⟩
  rw [if_neg h20] at h
  by_cases h21 : x.op = 21
  · rw [if_pos h21] at h
    exact ⟨by omega, b0_of h⟩
  rw [if_neg h21] at h
  by_cases h22 : x.op = 22
  · rw [if_pos h22] at h
    exact ⟨by omega, b0_of h⟩
  rw [if_neg h22] at h
  by_cases h23 : x.op = 23
  · rw [if_pos h23] at h
    exact ⟨by omega, b0_of h⟩
  rw [if_neg h23] at h
  by_cases h24 : x.op = 24
  · rw [if_pos h24] at h
    exact ⟨by omega, b0_of h⟩
  rw [if_neg h24] at h
  by_cases h25 : x.op = 25
  · rw [if_pos h25] at h
    exact ⟨by omega, b0_of h⟩
  rw [if_neg h25] at h
  by_cases h26 : x.op = 26
  · rw [if_pos h26] at h
    exact ⟨by omega, b0_of h⟩
  rw [if_neg h26] at h
  cases h
theorem fns_range : ∀ (l : List Fn) (last : Int) (k n : Nat), -1 ≤ last → n ≤ 8192 → fnsB last k n l = true → ∀ f ∈ l, FnF f.pf
  | [], _, _, _, _, _, _, f, hf => by simp at hf
  | g :: l, last, k, n, hl, hn, h, f, hf => by
    rw [fnsB_step, Bool.and_eq_true] at h
    obtain ⟨h1, h2⟩ := h
    unfold fnB at h1
    simp only [Bool.and_eq_true, decide_eq_true_eq, Bool.not_eq_true', decide_eq_false_iff_not, wB_iff] at h1
    obtain ⟨a1, a2, a3, a4, a5, a6⟩ := h1
    rcases List.mem_cons.1 hf with rfl | hf
    · refine ⟨⟨by show 0 ≤ f.st; omega, by show f.st < _; omega⟩, ⟨by show 0 ≤ f.pa; omega, by show f.pa < _; omega⟩, ⟨by show (0 : Int) ≤ (f.locals.length : Int); omega, by show (f.locals.length : Int) < _; omega⟩, fun x hx => ?_⟩
      have := List.all_eq_true.1 a6 x hx
      have := (wB_iff _ _ _).1 this
      exact ⟨by omega, by omega⟩
    · exact fns_range l _ _ n (by omega) hn h2 f hf
theorem pcF_of {c : Co} (h : checkB c = true) (hb : ∀ x ∈ c.body, I64 x.a ∧ (0 ≤ x.bits ∧ x.bits ≤ 18446744073709551615)) : PcF c.pl := by
  have hs := check_small h
  unfold checkB at h
  rw [Bool.and_eq_true] at h
  obtain ⟨h1, h2⟩ := h
  unfold shapeB at h1
  simp only [Bool.and_eq_true, decide_eq_true_eq] at h1
  obtain ⟨a1, a2, a3, a4, a5, a6, a7, a8, a9, a10, a11⟩ := h1
  have b2 := (wB_iff _ _ _).1 a2
  have b3 := (wB_iff _ _ _).1 a3
  have b7 := (wB_iff _ _ _).1 a7
  have ty : ∀ (l : List Int), l.all tyB = true → ∀ x ∈ l, U32 x := fun l hl x hx => by
    have := (wB_iff _ _ _).1 (List.all_eq_true.1 hl x hx)
    exact ⟨by omega, by omega⟩
  refine ⟨ty _ a11, ⟨by show 0 ≤ c.mux; omega, by show c.mux < _; omega⟩, ⟨by show 0 ≤ c.ato; omega, by show c.ato < _; omega⟩, ⟨by show 0 ≤ c.start; omega, by show c.start < _; omega⟩, fun x hx => ?_, fun f hf => ?_, fun x hx => ?_, ?_, ?_, ?_, ?_⟩
  · have hc := List.all_eq_true.1 a9 x hx
    rw [chB_iff] at hc
    have e1 := (wB_iff _ _ _).1 hc.1
    have e2 := (wB_iff _ _ _).1 hc.2
    exact ⟨⟨by omega, by omega⟩, ⟨by omega, by omega⟩⟩
  · have hf' : f ∈ c.funcs.map Fn.pf := hf
    obtain ⟨g, hg, rfl⟩ := List.mem_map.1 hf'
    exact fns_range c.funcs (-1) 0 c.body.length (by omega) (by omega) a10 g hg
  · have hi := List.all_eq_true.1 h2 x hx
    unfold insB at hi
    rw [Bool.and_eq_true] at hi
    obtain ⟨c1, c2⟩ := op_range hi.2
    have e1 := (wB_iff _ _ _).1 hi.1
    obtain ⟨k1, k2⟩ := hb x hx
    exact ⟨c1, k1, c2, k2, ⟨by omega, by omega⟩⟩
  · exact ⟨by show (0 : Int) ≤ (c.places.length : Int); omega, by show (c.places.length : Int) < _; omega⟩
  · exact ⟨by show (0 : Int) ≤ (c.chans.length : Int); omega, by show (c.chans.length : Int) < _; have := hs.2.1; omega⟩
  · refine ⟨?_, ?_⟩ <;> (show _ ; simp only [Co.pl, List.length_map]; omega)
  · exact ⟨by show (0 : Int) ≤ (c.body.length : Int); omega, by show (c.body.length : Int) < _; omega⟩
theorem byt_app {a b : List Int} (h : Byt a) (k : Byt b) : Byt (a ++ b) := fun x hx => by
  rcases List.mem_append.1 hx with h1 | h1
  · exact h x h1
  · exact k x h1
theorem byt_be' (u : Int) (h : 0 ≤ u) (n : Nat) : Byt (be u n) := by
  obtain ⟨m, rfl⟩ : ∃ m : Nat, u = m := ⟨u.toNat, by omega⟩
  exact byt_be m n
theorem u64_pos (x : Int) : 0 ≤ IntKind.u64.wrap x := by rw [wrap_u64_eq]; omega
theorem byt_be4 (xs : List Int) : Byt (be4 xs) := fun x hx => by
  unfold be4 at hx
  obtain ⟨y, _, hy⟩ := List.mem_flatMap.1 hx
  exact byt_be' _ (u64_pos y) 4 x hy
theorem byt_enc (c : Co) (hb : ∀ x ∈ c.body, 0 ≤ x.bits) : Byt (encC c) := by
  unfold encC
  refine byt_app (byt_app (byt_app (byt_app (byt_be4 _) (byt_be4 _)) fun x hx => ?_) fun x hx => ?_) fun x hx => ?_
  · obtain ⟨y, _, hy⟩ := List.mem_flatMap.1 hx
    exact byt_be4 _ x hy
  · obtain ⟨y, _, hy⟩ := List.mem_flatMap.1 hx
    exact byt_app (byt_be4 _) (byt_be4 _) x hy
  · obtain ⟨y, hm, hy⟩ := List.mem_flatMap.1 hx
    exact byt_app (byt_be' _ (u64_pos _) 1) (byt_app (byt_be' _ (u64_pos _) 8) (byt_app (byt_be4 _) (byt_app (byt_be' _ (hb y hm) 8) (byt_be4 _)))) x hy
theorem encC_len {c : Co} (h : checkB c = true) : 28 ≤ (encC c).length ∧ (encC c).length ≤ 300000 := by
  have h3 := len3 h c.body.length
  rw [List.take_length] at h3
  refine ⟨?_, h3⟩
  unfold encC
  simp only [List.length_append, headE_len]
  omega
/-- What holds in a law on a code: its box at bx. -/
structure LawR (w wr : World) (c : Co) (bx : Nat) : Prop where
  bl : Below w.heap.size w wr
  rep : c.Rep w
  box : Co.Box wr bx c
theorem LawR.later {w wr w' : World} {c : Co} {bx : Nat} (h : LawR w wr c bx) (hb : Below wr.heap.size wr w') : LawR w w' c bx := ⟨below_next h.bl hb, h.rep, h.box.later hb⟩
theorem LawR.rep' {w wr : World} {c : Co} {bx : Nat} (h : LawR w wr c bx) : c.Rep wr := h.rep.later h.bl
theorem LawR.cells {w wr : World} {c : Co} {bx : Nat} (h : LawR w wr c bx) : wr.cell? ⟨bx, 0, none⟩ = some (.slice c.pA c.places.length c.pc) ∧ wr.cell? ⟨bx, 1, none⟩ = some (.int .i64 c.mux) ∧ wr.cell? ⟨bx, 2, none⟩ = some (.int .i64 c.ato) ∧ wr.cell? ⟨bx, 3, none⟩ = some (.slice c.cA c.chans.length c.cc) ∧ wr.cell? ⟨bx, 4, none⟩ = some (.slice c.fA c.funcs.length c.fc) ∧ wr.cell? ⟨bx, 5, none⟩ = some (.int .i64 c.start) ∧ wr.cell? ⟨bx, 6, none⟩ = some (.slice c.bA c.body.length c.bc) :=
  ⟨h.box.c0, h.box.c1, h.box.c2, h.box.c3, h.box.c4, h.box.c5, h.box.c6⟩
end Go.Proofs.YtbpbimkadiobfaaDoor
