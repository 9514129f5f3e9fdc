/-
  Plain words for walks: what a slice of ints reads as, and small lemmas on worlds.
-/
import Derived.WalkKit
import Derived.WalkLawsBesides
import Derived.WalkSpells
import Derived.Outline
import Derived.Lib.Hide
import Derived.WalkSmall
import Derived.OwnWalk
import Derived.Below
import Derived.Deep.AppendLies
import Derived.Laws.AppendOwnNone
import Derived.WideShapes
import Derived.Maps.AppendAt
import Derived.Deep.OwnRows
import Derived.Deep.LoopGhost
import Derived.BigQuiet
import Derived.Deep.QuietTactic
namespace Go.Stk
open Go.RowKit

theorem max2_int (k k' : IntKind) (x y : Int) : Builtin.max2 (.int k x) (.int k' y) = pure (.int k (max x y)) := by
  simp only [Builtin.max2, gt_iff_lt]; congr 2; omega
theorem max_two (ats : Array TypeId) (ty : TypeId) (a b : Value) : Builtin.max_ ats ty #[a, b] = (Builtin.max2 a b >>= fun s => pure s) := by simp only [Builtin.max_, List.foldlM_cons, List.foldlM_nil]

/-- The slice at A reads as these cells. -/
def Rd (w : World) (A : Option Addr) (cs : List Value) : Prop :=
  cs.length ≤ maxLen ∧ (0 < cs.length → ∃ b off, A = some ⟨b, off, none⟩ ∧ ∀ j (h : j < cs.length), w.cell? ⟨b, off + j, none⟩ = some cs[j])

def ints (xs : List Int) : List Value := xs.map (Value.int .i64)
@[simp] theorem ints_length (xs : List Int) : (ints xs).length = xs.length := by simp [ints]
theorem ints_append (xs ys : List Int) : ints (xs ++ ys) = ints xs ++ ints ys := by simp [ints]

/-- A slice of ints. -/
def RI (w : World) (A : Option Addr) (xs : List Int) : Prop := Rd w A (ints xs)

theorem cell_lt {w : World} {a : Addr} {v : Value} (h : w.cell? a = some v) : a.block < w.heap.size := World.block_lt_of_cell? w a h
theorem cell_below {B : Nat} {w w1 : World} (h : Below B w w1) {a : Addr} {v : Value} (ha : a.block < B) (hc : w.cell? a = some v) : w1.cell? a = some v := (h.cell ha).trans hc
theorem cell_later {w w1 : World} (h : Below w.heap.size w w1) {a : Addr} {v : Value} (hc : w.cell? a = some v) : w1.cell? a = some v := (h.cell (cell_lt hc)).trans hc

theorem Rd.later {w w1 : World} {A : Option Addr} {cs : List Value} (h : Rd w A cs) (hb : Below w.heap.size w w1) : Rd w1 A cs :=
  ⟨h.1, fun hn => by
    obtain ⟨b, off, e, hc⟩ := h.2 hn
    exact ⟨b, off, e, fun j hj => cell_later hb (hc j hj)⟩⟩
theorem RI.later {w w1 : World} {A : Option Addr} {xs : List Int} (h : RI w A xs) (hb : Below w.heap.size w w1) : RI w1 A xs := Rd.later h hb

theorem RI.at {w : World} {A : Option Addr} {xs : List Int} (h : RI w A xs) (k : Nat) (hk : k < xs.length) : ∃ b off, A = some ⟨b, off, none⟩ ∧ w.cell? ⟨b, off + k, none⟩ = some (.int .i64 (xs.getD k 0)) := by
  obtain ⟨b, off, e, hc⟩ := h.2 (by simp; omega)
  refine ⟨b, off, e, ?_⟩
  have := hc k (by simpa using hk)
  rw [this]
  simp [ints, hk]
theorem RI.len {w : World} {A : Option Addr} {xs : List Int} (h : RI w A xs) : xs.length ≤ 9223372036854775807 := by
  have := h.1; simp [maxLen] at this; omega

theorem below_then {B : Nat} {w w1 w2 : World} (h : Below B w w1) (hB : B ≤ w1.heap.size) (k : Below w1.heap.size w1 w2) : Below B w w2 :=
  h.trans (k.mono hB)

/-- What the call owns reads so. -/
theorem own_rd {w : World} {base : Nat} {e : TypeId} {v : Value} {n : Nat} {cs : List Value} (h : w.ownsRow base e 1 v n cs) :
    ∃ A c, v = .slice A cs.length c ∧ cs.length ≤ c ∧ Rd w A cs := by
  obtain ⟨hl, h⟩ := h
  simp at hl
  subst hl
  rcases h with ⟨rfl, hn⟩ | ⟨g, cap, cur, rfl, _, hh, hcap, hm, hs, ht⟩
  · exact ⟨none, 0, by rw [hn], by omega, by omega, fun h => by omega⟩
  · refine ⟨_, cap, rfl, hcap, by omega, fun _ => ⟨g, 0, rfl, fun j hj => ?_⟩⟩
    simp at ht hs
    have h1 : j < cur.size := by omega
    have : cs[j] = cur[j] := by
      have h2 : cs[j]? = (cur.toList.take cs.length)[j]? := by rw [ht]
      simp [hj, h1] at h2
      exact h2
    simp [World.cell?, hh, this]
theorem own_ri {w : World} {base : Nat} {e : TypeId} {v : Value} {n : Nat} {xs : List Int} (h : w.ownsRow base e 1 v n (ints xs)) :
    ∃ A c, v = .slice A xs.length c ∧ xs.length ≤ c ∧ RI w A xs := by
  obtain ⟨A, c, e, h1, h2⟩ := own_rd h
  simp at e h1
  exact ⟨A, c, e, h1, h2⟩

section
variable {P : Program} {ops : Array Oper} {rest : List Oper} {o : Oper} {a : Act} {Q : Exit → Act → World → Prop}
/-- 'out = append(out, y)': the row is the call's own, y stands in a box just laid. -/
theorem append_one {w0 W : World} (base : Nat) (hgd : o.guard = none) (s x : Operand) (t e : TypeId) (z : Value) (bytes : Nat)
    (ho : o.op = .call { callee := .builtin .append, args := #[s, x], argTypes := #[t, t] })
    (ht : P.underlying t = some (.slice e)) (hinfo : (P.info? e).map (fun i => (i.zero, i.size, i.bytes)) = some (some z, 1, bytes)) (hz : z.cells.size = 1) (hb0 : 0 < bytes)
    (v : Value) (xs : List Value) (y : Value) (hs : a.eval s = v) (hx : a.eval x = .slice (some ⟨W.heap.size, 0, none⟩) 1 1) (h1 : y.oneCell' = true)
    (HO : W.ownsRow base e 1 v xs.length xs) (HB : Below base w0 W) (hbase : base ≤ W.heap.size) (hl : (xs.length + 1) * bytes ≤ 140737488355328)
    (h : ∀ v1 w1, w1.ownsRow base e 1 v1 (xs ++ [y]).length (xs ++ [y]) → Below base w0 w1 → W.grownBy w1 v.ownBlock → wpList P ops Q rest (a.put o.dst v1) w1) :
    wpList P ops Q (o :: rest) a (W.alloc (.cells #[y] e)) := by
  obtain ⟨i0, hi, hzz⟩ := Option.map_eq_some_iff.1 hinfo
  simp only [Prod.mk.injEq] at hzz
  obtain ⟨hz0, hz1, hz2⟩ := hzz
  have hlen : xs.length + 1 ≤ 140737488355328 := Nat.le_trans (Nat.le_mul_of_pos_right _ hb0) hl
  refine wpList_append_own (P := P) (w := W.alloc (.cells #[y] e)) hgd s x t ho base e i0 z 1 bytes ht hi hz0 hz1 hz2 hz (by omega) v xs.length xs hs (HO.alloc _) ⟨W.heap.size, 0, none⟩ 1 1 [y] hx rfl
    (World.news_of_block (cs := #[y]) (t := e) (fr := (0, 0)) (heap_alloc_new W _)) (by simpa using h1) (by simp only [maxLen]; omega) hl (by simp; omega) ?_
  intro v1 w1 hown hg _
  have hr : ∀ k, v.ownBlock = some k → base ≤ k := fun k hk => (HO.lt k hk).1
  exact h v1 w1 (by simpa using hown) ((HB.alloc hbase _).grown hg (by simp; omega) hr) (World.grownBy.trans (World.grownBy_alloc W _ _) hg)
end

/-- make([]T, m), T of one cell: an equation for every world. -/
theorem make_one {P : Program} (t e : TypeId) (z : Value) (bytes : Nat) (ht : P.underlying t = some (.slice e)) (hinfo : (P.info? e).map (fun i => (i.zero, i.size, i.bytes)) = some (some z, 1, bytes)) (hz : z.cells = #[z]) (hb0 : 0 < bytes)
    (m : Nat) (hn : m * bytes ≤ 281474976710656) :
    ∀ W : World, (Instr.makeSlice t (.int .i64 (m : Int)) (.int .i64 (m : Int))).run P W = .ok (.slice (some ⟨W.heap.size, 0, none⟩) m m) (W.alloc (.cells (madeCells #[z] m) e)) := by
  intro W
  have hm : m ≤ 281474976710656 := Nat.le_trans (Nat.le_mul_of_pos_right _ hb0) hn
  exact run_make_row' t e z bytes ht hinfo hz .i64 .i64 m (by rw [Nat.mul_comm]; exact hn) (by omega) W
theorem madeCells_rep (z : Value) (m : Nat) : madeCells #[z] m = Array.replicate m z := by
  apply Array.ext
  · simp [size_madeCells]
  · intro i h1 h2
    simp [madeCells, Nat.mod_one]
/-- A block just laid, whole, as a row of the call's own. -/
theorem own_new (W : World) (base : Nat) (e : TypeId) (cs : Array Value) (hb : base ≤ W.heap.size) (hm : cs.size ≤ maxLen) :
    (W.alloc (.cells cs e)).ownsRow base e 1 (.slice (some ⟨W.heap.size, 0, none⟩) cs.size cs.size) cs.toList.length cs.toList :=
  ⟨by simp, .inr ⟨W.heap.size, cs.size, cs, by simp, hb, heap_alloc_new W _, by simp, hm, by simp, by simp [List.take_of_length_le]⟩⟩

section
variable {P : Program} {ops : Array Oper} {rest : List Oper} {o : Oper} {a : Act} {Q : Exit → Act → World → Prop}
/-- 'out = append(out, ys...)': the row is the call's own; ys is nil or reads as a list. -/
theorem append_list {w0 W : World} (base : Nat) (hgd : o.guard = none) (s x : Operand) (t e : TypeId) (z : Value) (bytes : Nat)
    (ho : o.op = .call { callee := .builtin .append, args := #[s, x], argTypes := #[t, t] })
    (ht : P.underlying t = some (.slice e)) (hinfo : (P.info? e).map (fun i => (i.zero, i.size, i.bytes)) = some (some z, 1, bytes)) (hz : z.cells.size = 1) (hb0 : 0 < bytes)
    (v : Value) (xs ys : List Value) (A : Option Addr) (c : Nat) (hs : a.eval s = v) (hx : a.eval x = .slice A ys.length c) (h1 : ∀ u ∈ ys, u.oneCell' = true)
    (HO : W.ownsRow base e 1 v xs.length xs) (HB : Below base w0 W) (hbase : base ≤ W.heap.size) (hy : Rd W A ys) (hnil : A = none → c = 0) (hl : (xs.length + ys.length) * bytes ≤ 140737488355328)
    (h : ∀ v1 w1, w1.ownsRow base e 1 v1 (xs ++ ys).length (xs ++ ys) → Below base w0 w1 → W.grownBy w1 v.ownBlock → wpList P ops Q rest (a.put o.dst v1) w1) :
    wpList P ops Q (o :: rest) a W := by
  obtain ⟨i0, hi, hzz⟩ := Option.map_eq_some_iff.1 hinfo
  simp only [Prod.mk.injEq] at hzz
  obtain ⟨hz0, hz1, hz2⟩ := hzz
  have hlen : xs.length + ys.length ≤ 140737488355328 := Nat.le_trans (Nat.le_mul_of_pos_right _ hb0) hl
  have hr : ∀ k, v.ownBlock = some k → base ≤ k := fun k hk => (HO.lt k hk).1
  cases A with
  | none =>
    have hy0 : ys = [] := by
      cases ys with
      | nil => rfl
      | cons y ys => obtain ⟨b, off, e, _⟩ := hy.2 (by simp); cases e
    subst hy0
    obtain rfl := hnil rfl
    refine wpList_append_own_none hgd s x t ho base e i0 1 ht hi v xs.length xs hs HO hx ?_
    exact h v W (by simpa using HO) HB ⟨rfl, rfl, rfl, Nat.le_refl _, fun _ _ _ => rfl⟩
  | some ad =>
    refine wpList_append_own (P := P) (w := W) hgd s x t ho base e i0 z 1 bytes ht hi hz0 hz1 hz2 hz (by omega) v xs.length xs hs HO ad ys.length c ys hx (by simp) ?_ h1 (by simp only [maxLen]; omega) hl hbase ?_
    · intro j u hj
      have hjl : j < ys.length := (List.getElem?_eq_some_iff.1 hj).1
      obtain ⟨b, off, e, hc⟩ := hy.2 (by omega)
      injection e with e
      subst e
      rw [Go.WideShapes.add_plain, hc j hjl]
      rw [List.getElem?_eq_getElem hjl] at hj
      exact hj
    · intro v1 w1 hown hg _
      exact h v1 w1 (by simpa using hown) (HB.grown hg hbase hr) hg
end

/-- make([]T, 0, m), T of one cell. -/
theorem make_room {P : Program} (t e : TypeId) (z : Value) (bytes : Nat) (ht : P.underlying t = some (.slice e)) (hinfo : (P.info? e).map (fun i => (i.zero, i.size, i.bytes)) = some (some z, 1, bytes)) (hz : z.cells = #[z]) (hb0 : 0 < bytes)
    (m : Nat) (hn : m * bytes ≤ 281474976710656) :
    ∀ W : World, (Instr.makeSlice t (.int .i64 0) (.int .i64 (m : Int))).run P W = .ok (.slice (some ⟨W.heap.size, 0, none⟩) 0 m) (W.alloc (.cells (madeCells #[z] m) e)) := by
  intro W
  obtain ⟨i0, hi, hzz⟩ := Option.map_eq_some_iff.1 hinfo
  simp only [Prod.mk.injEq] at hzz
  obtain ⟨hz0, hz1, hz2⟩ := hzz
  have hm : m ≤ 281474976710656 := Nat.le_trans (Nat.le_mul_of_pos_right _ hb0) hn
  have hb : (i0.bytes : Int) * (m : Int) ≤ 281474976710656 := by
    rw [hz2]
    have : ((bytes * m : Nat) : Int) ≤ 281474976710656 := by rw [Nat.mul_comm]; omega
    rwa [Int.natCast_mul] at this
  have h := run_make W (P := P) t e i0 z ht hi hz0 .i64 .i64 0 (m : Int) (Int.le_refl _) (by omega) hb (by omega)
  simpa [hz1, hz] using h
/-- An empty row with room, just made. -/
theorem own_room (W : World) (base : Nat) (e : TypeId) (cs : Array Value) (hb : base ≤ W.heap.size) (hm : cs.size ≤ maxLen) :
    (W.alloc (.cells cs e)).ownsRow base e 1 (.slice (some ⟨W.heap.size, 0, none⟩) 0 cs.size) 0 [] :=
  World.ownsRow_made W cs cs.size hb hm (by simp)
/-- The row's cells, wherever it lies. -/
theorem own_cells {w : World} {base g n c : Nat} {e : TypeId} {cs : List Value} (h : w.ownsRow base e 1 (.slice (some ⟨g, 0, none⟩) n c) n cs) (j : Nat) (hj : j < cs.length) : w.cell? ⟨g, j, none⟩ = some cs[j] := by
  have hn : cs.length = n * 1 := h.1
  rw [World.ownsRow.cellAt h j (by omega), List.getElem?_eq_getElem hj]
/-- Its capacity holds it. -/
theorem own_cap {w : World} {base g n c : Nat} {e : TypeId} {cs : List Value} (h : w.ownsRow base e 1 (.slice (some ⟨g, 0, none⟩) n c) n cs) : n ≤ c ∧ c ≤ maxLen := by
  rcases h.2 with ⟨h', _⟩ | ⟨g', cap', cur, h', _, hg, h1, h2, _⟩
  · simp at h'
  · simp only [Value.slice.injEq, Option.some.injEq, Addr.mk.injEq, and_true, true_and] at h'
    obtain ⟨rfl, rfl⟩ := h'
    exact ⟨h1, h2⟩
end Go.Stk
