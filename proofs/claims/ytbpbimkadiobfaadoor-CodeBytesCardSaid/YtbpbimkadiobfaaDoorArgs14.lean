/-
  Codes as arguments.
-/
import Derived.Test.YtbpbimkadiobfaaDoorOpen2
import Derived.Test.YtbpbimkadiobfaaDoorCode17
namespace Go.Proofs.YtbpbimkadiobfaaDoor
open Go.RowKit Go.Stk

theorem cells_int : Tryd.prog.cellsOf 3 = 1 := by kernel_rfl
theorem cells_u64 : Tryd.prog.cellsOf 32 = 1 := by kernel_rfl
theorem cells_ints : Tryd.prog.cellsOf 24 = 1 := by kernel_rfl
theorem cells_chans : Tryd.prog.cellsOf 28 = 1 := by kernel_rfl
theorem cells_fns : Tryd.prog.cellsOf 27 = 1 := by kernel_rfl
theorem cells_inss : Tryd.prog.cellsOf 29 = 1 := by kernel_rfl
theorem cells_chan : Tryd.prog.cellsOf 70 = 2 := by kernel_rfl
theorem cells_fn : Tryd.prog.cellsOf 26 = 3 := by kernel_rfl
theorem cells_ins : Tryd.prog.cellsOf 34 = 5 := by kernel_rfl
theorem cells_co : Tryd.prog.cellsOf 31 = 7 := by kernel_rfl
theorem cells_pair : Tryd.prog.cellsOf 42 = 16 := by kernel_rfl
theorem bytes_int : Tryd.prog.bytesOf 3 = 8 := by kernel_rfl
theorem bytes_chan : Tryd.prog.bytesOf 70 = 16 := by kernel_rfl
theorem bytes_fn : Tryd.prog.bytesOf 26 = 40 := by kernel_rfl
theorem bytes_ins : Tryd.prog.bytesOf 34 = 40 := by kernel_rfl
theorem reach_is : reachBytes = 140737488351232 := by rfl
def I64 (n : Int) : Prop := -9223372036854775808 ≤ n ∧ n ≤ 9223372036854775807
def InsOk (x : Ins) : Prop := I64 x.op ∧ I64 x.a ∧ I64 x.b ∧ (0 ≤ x.bits ∧ x.bits ≤ 18446744073709551615) ∧ I64 x.at_
def FnOk (w : World) (f : Fn) : Prop := I64 f.st ∧ I64 f.pa ∧ Rs w f.lA (ints f.locals) ∧ f.locals.length ≤ 140737488351232 ∧ f.locals.length ≤ f.lc ∧ f.lc ≤ maxLen ∧ (f.lA = none → f.lc = 0) ∧ ∀ n ∈ f.locals, I64 n
structure CoOk (w : World) (c : Co) : Prop where
  rep : c.Rep w
  mux : I64 c.mux
  ato : I64 c.ato
  start : I64 c.start
  places : ∀ n ∈ c.places, I64 n
  chans : ∀ x ∈ c.chans, I64 x.1 ∧ I64 x.2
  funcs : ∀ f ∈ c.funcs, FnOk w f
  body : ∀ x ∈ c.body, InsOk x
  cp : c.places.length ≤ c.pc ∧ c.pc ≤ maxLen ∧ (c.pA = none → c.pc = 0)
  cc : c.chans.length ≤ c.cc ∧ c.cc ≤ maxLen ∧ (c.cA = none → c.cc = 0)
  cf : c.funcs.length ≤ c.fc ∧ c.fc ≤ maxLen ∧ (c.fA = none → c.fc = 0)
  cb : c.body.length ≤ c.bc ∧ c.bc ≤ maxLen ∧ (c.bA = none → c.bc = 0)
theorem opns_int : OpnS Tryd.prog 3 fun _ cs => ∃ n : Int, cs = [.int .i64 n] ∧ I64 n := (opn_i64 Tryd.underlying3).s
theorem opns_ints : OpnS Tryd.prog 24 fun w cs => ∃ A c, ∃ os : List Int, cs = [.slice A os.length c] ∧ os.length ≤ c ∧ c ≤ maxLen ∧ (A = none → c = 0) ∧ Rs w A (ints os) ∧ os.length ≤ 140737488351232 ∧ ∀ o ∈ os, I64 o :=
  (opns_slice Tryd.underlying24 cells_int (by omega) (fun n : Int => [Value.int .i64 n]) (fun _ => rfl) (fun _ n => I64 n) opns_int).mono fun w cs ⟨A, c, os, h1, h2, h3, h4, h5, h6, h7⟩ => by
    rw [bytes_int, reach_is] at h6
    rw [flat_ints] at h5
    exact ⟨A, c, os, h1, h2, h3, h4, h5, by omega, h7⟩
set_option maxRecDepth 100000 in
theorem opns_chan : OpnS Tryd.prog 70 fun _ cs => ∃ x : Int × Int, cs = chCells x ∧ (I64 x.1 ∧ I64 x.2) :=
  (opns_struct Tryd.underlying70).mono fun w cs ⟨hl, hf⟩ => by
    rw [cells_chan] at hl
    match cs, hl with
    | [c0, c1], _ =>
      obtain ⟨n0, e0, b0⟩ := hf 0 _ rfl _ opns_int
      obtain ⟨n1, e1, b1⟩ := hf 1 _ rfl _ opns_int
      simp [cells_int] at e0 e1
      subst e0 e1
      exact ⟨(n0, n1), rfl, b0, b1⟩
set_option maxRecDepth 100000 in
theorem opns_ins : OpnS Tryd.prog 34 fun _ cs => ∃ x : Ins, cs = x.cells ∧ InsOk x :=
  (opns_struct Tryd.underlying34).mono fun w cs ⟨hl, hf⟩ => by
    rw [cells_ins] at hl
    match cs, hl with
    | [c0, c1, c2, c3, c4], _ =>
      obtain ⟨n0, e0, b0⟩ := hf 0 _ rfl _ opns_int
      obtain ⟨n1, e1, b1⟩ := hf 1 _ rfl _ opns_int
      obtain ⟨n2, e2, b2⟩ := hf 2 _ rfl _ opns_int
      obtain ⟨n3, e3, b3⟩ := hf 3 _ rfl _ (opn_u64 Tryd.underlying32).s
      obtain ⟨n4, e4, b4⟩ := hf 4 _ rfl _ opns_int
      simp [cells_int, cells_u64] at e0 e1 e2 e3 e4
      subst e0 e1 e2 e3 e4
      exact ⟨⟨n0, n1, n2, n3, n4⟩, rfl, b0, b1, b2, b3, b4⟩
set_option maxRecDepth 100000 in
theorem opns_fn : OpnS Tryd.prog 26 fun w cs => ∃ x : Fn, cs = x.cells ∧ FnOk w x :=
  (opns_struct Tryd.underlying26).mono fun w cs ⟨hl, hf⟩ => by
    rw [cells_fn] at hl
    match cs, hl with
    | [c0, c1, c2], _ =>
      obtain ⟨n0, e0, b0⟩ := hf 0 _ rfl _ opns_int
      obtain ⟨n1, e1, b1⟩ := hf 1 _ rfl _ opns_int
      obtain ⟨A, c, os, e2, h2, h3, h4, h5, h6, h7⟩ := hf 2 _ rfl _ opns_ints
      simp [cells_int, cells_ints] at e0 e1 e2
      subst e0 e1 e2
      exact ⟨⟨n0, n1, A, c, os⟩, rfl, b0, b1, h5, h6, h2, h3, h4, h7⟩
set_option maxRecDepth 100000 in
theorem opns_co : OpnS Tryd.prog 31 fun w cs => ∃ c : Co, cs = c.cells ∧ CoOk w c :=
  (opns_struct Tryd.underlying31).mono fun w cs ⟨hl, hf⟩ => by
    rw [cells_co] at hl
    match cs, hl with
    | [c0, c1, c2, c3, c4, c5, c6], _ =>
      obtain ⟨pA, pc, ps, e0, p2, p3, p4, p5, p6, p7⟩ := hf 0 _ rfl _ opns_ints
      obtain ⟨n1, e1, b1⟩ := hf 1 _ rfl _ opns_int
      obtain ⟨n2, e2, b2⟩ := hf 2 _ rfl _ opns_int
      obtain ⟨cA, cc, chs, e3, q2, q3, q4, q5, q6, q7⟩ := hf 3 _ rfl _ (opns_slice Tryd.underlying28 cells_chan (by omega) chCells (fun _ => rfl) (fun _ x => I64 x.1 ∧ I64 x.2) opns_chan)
      obtain ⟨fA, fc, fns, e4, r2, r3, r4, r5, r6, r7⟩ := hf 4 _ rfl _ (opns_slice Tryd.underlying27 cells_fn (by omega) Fn.cells (fun _ => rfl) FnOk opns_fn)
      obtain ⟨n5, e5, b5⟩ := hf 5 _ rfl _ opns_int
      obtain ⟨bA, bc, bs, e6, s2, s3, s4, s5, s6, s7⟩ := hf 6 _ rfl _ (opns_slice Tryd.underlying29 cells_ins (by omega) Ins.cells (fun _ => rfl) (fun _ x => InsOk x) opns_ins)
      simp [cells_int, cells_ints, cells_chans, cells_fns, cells_inss] at e0 e1 e2 e3 e4 e5 e6
      subst e0 e1 e2 e3 e4 e5 e6
      rw [bytes_chan, reach_is] at q6
      rw [bytes_fn, reach_is] at r6
      rw [bytes_ins, reach_is] at s6
      exact ⟨⟨pA, pc, ps, n1, n2, cA, cc, chs, fA, fc, fns, n5, bA, bc, bs⟩, rfl, ⟨⟨p5, q5, r5, fun f hf2 => ⟨(r7 f hf2).2.2.1, (r7 f hf2).2.2.2.1⟩, s5, p6, by dsimp only; omega, by dsimp only; omega, by dsimp only; omega, p2⟩, b1, b2, b5, p7, q7, r7, s7, ⟨p2, p3, p4⟩, ⟨q2, q3, q4⟩, ⟨r2, r3, r4⟩, ⟨s2, s3, s4⟩⟩⟩
theorem len7 {l : List Value} (h : l.length = 7) : ∃ a b c d e f g, l = [a, b, c, d, e, f, g] := by
  match l, h with
  | [a, b, c, d, e, f, g], _ => exact ⟨a, b, c, d, e, f, g, rfl⟩
set_option maxRecDepth 100000 in
theorem opns_pair : OpnS Tryd.prog 42 fun w cs => ∃ (a b : Co) (op n : Int), cs = a.cells ++ (b.cells ++ [.int .i64 op, .int .i64 n]) ∧ CoOk w a ∧ CoOk w b ∧ I64 op ∧ I64 n :=
  (opns_struct Tryd.underlying42).mono fun w cs ⟨hl, hf⟩ => by
    rw [cells_pair] at hl
    obtain ⟨a, ea, ha⟩ := hf 0 _ rfl _ opns_co
    obtain ⟨b, eb, hb⟩ := hf 1 _ rfl _ opns_co
    obtain ⟨op, eo, ho⟩ := hf 2 _ rfl _ opns_int
    obtain ⟨n, en, hn⟩ := hf 3 _ rfl _ opns_int
    have ea : cs.take 7 = a.cells := by simpa [cells_co] using ea
    have eb : (cs.drop 7).take 7 = b.cells := by simpa [cells_co] using eb
    have eo : (cs.drop 14).take 1 = [.int .i64 op] := by simpa [cells_int] using eo
    have en : (cs.drop 15).take 1 = [.int .i64 n] := by simpa [cells_int] using en
    refine ⟨a, b, op, n, ?_, ha, hb, ho, hn⟩
    have h1 : cs = cs.take 7 ++ ((cs.drop 7).take 7 ++ ((cs.drop 14).take 1 ++ (cs.drop 15).take 1)) := by
      rw [show (cs.drop 15).take 1 = cs.drop 15 by apply List.take_of_length_le; simp; omega]
      rw [show cs.drop 15 = (cs.drop 14).drop 1 by simp, List.take_append_drop]
      rw [show cs.drop 14 = (cs.drop 7).drop 7 by simp, List.take_append_drop, List.take_append_drop]
    rw [h1]
    rw [ea, eb, eo, en]
    rfl
theorem pair_val {v : Value} {cs : Array Value} {a b : Co} {op n : Int} (hv : v = .agg cs) (h : v.cells.toList = a.cells ++ (b.cells ++ [.int .i64 op, .int .i64 n])) : v = pairAgg a b op n := by
  subst hv
  simp only [Value.cells] at h
  unfold pairAgg
  congr 1
  apply Array.toList_inj.1
  rw [h]
  rfl
end Go.Proofs.YtbpbimkadiobfaaDoor
