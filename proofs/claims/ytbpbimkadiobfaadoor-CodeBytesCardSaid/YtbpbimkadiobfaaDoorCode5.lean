/-
  A code in memory; its shape.
-/
import Derived.Test.YtbpbimkadiobfaaDoorCode4
namespace Go.Proofs.YtbpbimkadiobfaaDoor
open Go.RowKit Go.Stk

/-- A function of a code. -/
structure Fn where
  st : Int
  pa : Int
  lA : Option Addr
  lc : Nat
  locals : List Int
def Fn.cells (f : Fn) : List Value := [.int .i64 f.st, .int .i64 f.pa, .slice f.lA f.locals.length f.lc]
def fcells (l : List Fn) : List Value := l.flatMap Fn.cells
def chCells (c : Int × Int) : List Value := [.int .i64 c.1, .int .i64 c.2]
def ccells (l : List (Int × Int)) : List Value := l.flatMap chCells
structure Co where
  pA : Option Addr
  pc : Nat
  places : List Int
  mux : Int
  ato : Int
  cA : Option Addr
  cc : Nat
  chans : List (Int × Int)
  fA : Option Addr
  fc : Nat
  funcs : List Fn
  start : Int
  bA : Option Addr
  bc : Nat
  body : List Ins
def Co.cells (c : Co) : List Value := [.slice c.pA c.places.length c.pc, .int .i64 c.mux, .int .i64 c.ato, .slice c.cA c.chans.length c.cc, .slice c.fA c.funcs.length c.fc, .int .i64 c.start, .slice c.bA c.body.length c.bc]
def Co.agg (c : Co) : Value := .agg #[.slice c.pA c.places.length c.pc, .int .i64 c.mux, .int .i64 c.ato, .slice c.cA c.chans.length c.cc, .slice c.fA c.funcs.length c.fc, .int .i64 c.start, .slice c.bA c.body.length c.bc]
structure Co.Rep (w : World) (c : Co) : Prop where
  pl : Rs w c.pA (ints c.places)
  ch : Rs w c.cA (ccells c.chans)
  fn : Rs w c.fA (fcells c.funcs)
  lo : ∀ f ∈ c.funcs, Rs w f.lA (ints f.locals) ∧ f.locals.length ≤ 140737488351232
  bo : Rs w c.bA (icells c.body)
  lp : c.places.length ≤ 140737488351232
  lc : c.chans.length ≤ 140737488351232
  lf : c.funcs.length ≤ 140737488351232
  lb : c.body.length ≤ 140737488351232
  pcap : c.places.length ≤ c.pc
theorem Co.Rep.later {w w' : World} {c : Co} (h : c.Rep w) (hb : Below w.heap.size w w') : c.Rep w' :=
  ⟨h.pl.later hb, h.ch.later hb, h.fn.later hb, fun f hf => ⟨(h.lo f hf).1.later hb, (h.lo f hf).2⟩, h.bo.later hb, h.lp, h.lc, h.lf, h.lb, h.pcap⟩
/-- A code's box. -/
structure Co.Box (w : World) (b : Nat) (c : Co) : Prop where
  c0 : w.cell? ⟨b, 0, none⟩ = some (.slice c.pA c.places.length c.pc)
  c1 : w.cell? ⟨b, 1, none⟩ = some (.int .i64 c.mux)
  c2 : w.cell? ⟨b, 2, none⟩ = some (.int .i64 c.ato)
  c3 : w.cell? ⟨b, 3, none⟩ = some (.slice c.cA c.chans.length c.cc)
  c4 : w.cell? ⟨b, 4, none⟩ = some (.slice c.fA c.funcs.length c.fc)
  c5 : w.cell? ⟨b, 5, none⟩ = some (.int .i64 c.start)
  c6 : w.cell? ⟨b, 6, none⟩ = some (.slice c.bA c.body.length c.bc)
theorem Co.Box.later {w w' : World} {b : Nat} {c : Co} (h : Co.Box w b c) (hb : Below w.heap.size w w') : Co.Box w' b c :=
  ⟨cell_later hb h.c0, cell_later hb h.c1, cell_later hb h.c2, cell_later hb h.c3, cell_later hb h.c4, cell_later hb h.c5, cell_later hb h.c6⟩
theorem Co.box_new (w : World) (c : Co) (T : TypeId) : Co.Box (w.alloc (.cells #[.slice c.pA c.places.length c.pc, .int .i64 c.mux, .int .i64 c.ato, .slice c.cA c.chans.length c.cc, .slice c.fA c.funcs.length c.fc, .int .i64 c.start, .slice c.bA c.body.length c.bc] T)) w.heap.size c := by
  have h := blk_new w (.cells #[.slice c.pA c.places.length c.pc, .int .i64 c.mux, .int .i64 c.ato, .slice c.cA c.chans.length c.cc, .slice c.fA c.funcs.length c.fc, .int .i64 c.start, .slice c.bA c.body.length c.bc] T)
  exact ⟨by rw [blk_cell h]; rfl, by rw [blk_cell h]; rfl, by rw [blk_cell h]; rfl, by rw [blk_cell h]; rfl, by rw [blk_cell h]; rfl, by rw [blk_cell h]; rfl, by rw [blk_cell h]; rfl⟩
theorem ch_at {w : World} {A : Option Addr} {l : List (Int × Int)} (h : Rs w A (ccells l)) (k : Nat) (x : Int × Int) (hk : l[k]? = some x) : ∃ b off, A = some ⟨b, off, none⟩ ∧ w.cell? ⟨b, off + k * 2, none⟩ = some (.int .i64 x.1) ∧ w.cell? ⟨b, off + k * 2 + 1, none⟩ = some (.int .i64 x.2) := by
  obtain ⟨b, off, e, hc⟩ := Rs.elem (f := chCells) (k := 2) (fun _ => rfl) h hk (by omega)
  exact ⟨b, off, e, hc 0 _ rfl, hc 1 _ rfl⟩
theorem fn_at {w : World} {A : Option Addr} {l : List Fn} (h : Rs w A (fcells l)) (k : Nat) (x : Fn) (hk : l[k]? = some x) : ∃ b off, A = some ⟨b, off, none⟩ ∧ w.cell? ⟨b, off + k * 3, none⟩ = some (.int .i64 x.st) ∧ w.cell? ⟨b, off + k * 3 + 1, none⟩ = some (.int .i64 x.pa) ∧ w.cell? ⟨b, off + k * 3 + 2, none⟩ = some (.slice x.lA x.locals.length x.lc) := by
  obtain ⟨b, off, e, hc⟩ := Rs.elem (f := Fn.cells) (k := 3) (fun _ => rfl) h hk (by omega)
  exact ⟨b, off, e, hc 0 _ rfl, hc 1 _ rfl, hc 2 _ rfl⟩

def chB (c : Int × Int) : Bool := tyB c.1 && wB c.2 0 8
def fnB (last : Int) (k : Nat) (n : Nat) (f : Fn) : Bool :=
  !decide (f.st ≤ last) && (!(decide (k = 0) && decide (f.st ≠ 0)) && (decide (f.st < (n : Int)) && (wB f.pa 0 (min 4 (f.locals.length : Int)) && (decide (f.locals.length ≤ 32) && f.locals.all tyB))))
def fnsB (last : Int) (k n : Nat) : List Fn → Bool
  | [] => true
  | f :: r => fnB last k n f && fnsB f.st (k + 1) n r
/-- All but the instructions. -/
def shapeB (c : Co) : Bool :=
  decide (c.places.length ≤ 128) && (wB c.mux 0 32 && (wB c.ato 0 32 && (decide (c.mux + c.ato + (c.chans.length : Int) ≤ 32) && (decide (c.funcs.length ≤ 16) && (decide (c.body.length ≤ 8192) && (wB c.start 0 ((c.funcs.length : Int) - 1) &&
    ((match c.funcs[c.start.toNat]? with | some f => decide (f.pa = 0) | none => false) && (c.chans.all chB && (fnsB (-1) 0 c.body.length c.funcs && c.places.all tyB)))))))))
end Go.Proofs.YtbpbimkadiobfaaDoor
