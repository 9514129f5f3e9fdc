/-
  A code read: what stands in memory while it is read.
-/
import Derived.Test.YtbpbimkadiobfaaDoorParse
import Derived.Deep.RegionHeld3
import Derived.Deep.RegionLaw
import Derived.Deep.DeepCutAuto
import Derived.Deep.CutBlock
import Derived.Deep.DrawnRows
namespace Go.Proofs.YtbpbimkadiobfaaDoor
open Go.RowKit Go.Stk
attribute [local go_sem ↓] Go.wp_at_zero Go.wp_at_succ

/-- A call of a Go function, by its contract, as one step of a region that draws its order. -/
theorem step_call {P : Program} {ops : Array Oper} {o : Oper} {a : Act} {w : World} {K : Act → World → Prop} {Q : Exit → Act → World → Prop} {E : Prop} (hgd : o.guard = none) (f : FuncId) (args : Array Operand) (ats : Array TypeId)
    (_ho : o.op = .call { callee := .value (.func f), args := args, argTypes := ats }) (vs : Array Value) (hrun : (execOp a.eval o).run P w = .ok (.enter f vs) w) {R : Ending → World → Prop} (hc : Calls P f vs w R)
    (h : ∀ e w', R e w' → (∃ v, e = .returned v ∧ K (a.put o.dst v) w') ∨ (∃ c, e = .panicked c ∧ Q (.panic c) a w')) : if Region.wanted o (yielded ops a.tmps) = true then Oper.wp P o a w K Q else E := by
  have hw : Region.wanted o (yielded ops a.tmps) = true := by simp [Region.wanted, hgd]
  rw [if_pos hw]
  unfold Oper.wp
  rw [hrun, Oper.upon_enter]
  refine hc.mono fun e w' hr => ?_
  rcases h e w' hr with ⟨v, rfl, hk⟩ | ⟨c, rfl, hk⟩
  · exact hk
  · exact hk
theorem deb4s_bd {l : List Int} (hB : Byt l) : ∀ n, ∀ x ∈ deb4s n l, 0 ≤ x ∧ x < 4294967296 := by
  intro n
  induction n generalizing l with
  | zero => intro x hx; simp [deb4s] at hx
  | succ n ih =>
    intro x hx
    rw [deb4s] at hx
    rcases List.mem_cons.1 hx with rfl | hx
    · exact deb4 hB
    · exact ih (hB.drop 4) x hx
theorem Got.at' {w : World} {o : Nat} {xs : List Int} (h : Got w o xs) (j : Nat) (hj : j < xs.length) : w.cell? ⟨o, j, none⟩ = some (.int .i64 (xs.getD j 0)) := by
  rw [blk_cell h]
  simp [ints, hj]
theorem put_defers (a : Act) (d : Option Tmp) (v : Value) : (a.put d v).defers = a.defers := by cases d <;> rfl
theorem hq_body {P : Program} {fn : Func} {R : Ending → World → Prop} {K : Act → World → Prop} (c : List PanicEntry) (a : Act) (d : Option Tmp) (v : Value) (w : World) (h : Exit.then K (bodyPost P fn R) (.panic c) (a.put d v) w) : Exit.then K (bodyPost P fn R) (.panic c) a w := by
  have h' : (a.put d v).defers = [] ∧ R (.panicked c) w := h
  rw [put_defers] at h'
  exact h'
/-- A number read, as a step of a region that draws its order. -/
theorem step_num {ops : Array Oper} {o : Oper} {a : Act} {w : World} {K : Act → World → Prop} {Q : Exit → Act → World → Prop} {E : Prop} (hgd : o.guard = none) (x : Operand) (ats : Array TypeId)
    (ho : o.op = .call { callee := .value (.func 58), args := #[x], argTypes := ats }) {b g : Nat} (hev : a.eval x = .pointer (some ⟨b, 0, none⟩)) {l : List Int} (hB : Byt l) (h : RdO w b g l) (hP : l.length < 4 → Q (.panic shortP) a w)
    (hK : 4 ≤ l.length → ∀ w', RdO w' b g (l.drop 4) → Kept [b] w w' → K (a.put o.dst (.int .i64 (deb (l.take 4)))) w') : if Region.wanted o (yielded ops a.tmps) = true then Oper.wp Tryd.prog o a w K Q else E := by
  have heg : ∀ (xs : Array Value) (W : World), (callFunc 58 xs).run Tryd.prog W = .ok (.enter 58 xs) W := by intro xs W; simp [go_sem]
  have hrun0 : ∀ ev : Operand → Value, ev (.func 58) = .func (.func 58) #[] #[] → ev x = .pointer (some ⟨b, 0, none⟩) → (execOp ev o).run Tryd.prog w = .ok (.enter 58 #[.pointer (some ⟨b, 0, none⟩)]) w := fun ev hf hev => by
    unfold execOp
    simp only [ho]
    simp [go_sem, hf, hev, heg]
  have hrun := hrun0 a.eval rfl hev
  by_cases hl : 4 ≤ l.length
  · refine step_call hgd _ _ ats ho _ hrun (num_ok b g l hB w h hl) ?_
    rintro e w' ⟨rfl, h1, h2⟩
    exact .inl ⟨_, rfl, hK hl w' h1 h2⟩
  · refine step_call hgd _ _ ats ho _ hrun (num_short b g l w h (by omega)) ?_
    rintro e w' ⟨rfl, rfl⟩
    exact .inr ⟨_, rfl, hP (by omega)⟩
theorem step_get {ops : Array Oper} {o : Oper} {a : Act} {w : World} {K : Act → World → Prop} {Q : Exit → Act → World → Prop} {E : Prop} (hgd : o.guard = none) (x y : Operand) (ats : Array TypeId)
    (ho : o.op = .call { callee := .value (.func 59), args := #[x, y], argTypes := ats }) (n : Nat) (hn : n ≤ 8) {b g : Nat} (hev : a.eval x = .pointer (some ⟨b, 0, none⟩)) (hevn : a.eval y = .int .i64 (n : Int)) {l : List Int} (hB : Byt l) (h : RdO w b g l) (hP : l.length < n → Q (.panic shortP) a w)
    (hK : n ≤ l.length → ∀ w', RdO w' b g (l.drop n) → Kept [b] w w' → K (a.put o.dst (.int .u64 (deb (l.take n)))) w') : if Region.wanted o (yielded ops a.tmps) = true then Oper.wp Tryd.prog o a w K Q else E := by
  have heg : ∀ (xs : Array Value) (W : World), (callFunc 59 xs).run Tryd.prog W = .ok (.enter 59 xs) W := by intro xs W; simp [go_sem]
  have hrun0 : ∀ ev : Operand → Value, ev (.func 59) = .func (.func 59) #[] #[] → ev x = .pointer (some ⟨b, 0, none⟩) → ev y = .int .i64 (n : Int) → (execOp ev o).run Tryd.prog w = .ok (.enter 59 #[.pointer (some ⟨b, 0, none⟩), .int .i64 (n : Int)]) w := fun ev hf hev hevn => by
    unfold execOp
    simp only [ho]
    simp [go_sem, hf, hev, hevn, heg]
  have hrun := hrun0 a.eval rfl hev hevn
  by_cases hl : n ≤ l.length
  · refine step_call hgd _ _ ats ho _ hrun (get_ok n hn b g l hB w h hl) ?_
    rintro e w' ⟨rfl, h1, h2⟩
    exact .inl ⟨_, rfl, hK hl w' h1 h2⟩
  · refine step_call hgd _ _ ats ho _ hrun (get_short n b g l w h (by omega)) ?_
    rintro e w' ⟨rfl, rfl⟩
    exact .inr ⟨_, rfl, hP (by omega)⟩
theorem step_get2 {ops : Array Oper} {o : Oper} {a : Act} {w : World} {K : Act → World → Prop} {Q : Exit → Act → World → Prop} {E : Prop} (hgd : o.guard = none) (x y : Operand) (ats : Array TypeId)
    (ho : o.op = .call { callee := .value (.func 59), args := #[x, y], argTypes := ats }) (n : Nat) (hn : n ≤ 8) {b g : Nat} (hev : a.eval x = .pointer (some ⟨b, 0, none⟩)) (hevn : a.eval y = .int .i64 (n : Int)) {l l2 : List Int} {D : Int} (hD : deb (l.take n) = D) (hl2 : l.drop n = l2) (hB : Byt l) (h : RdO w b g l) (hP : l.length < n → Q (.panic shortP) a w)
    (hK : n ≤ l.length → ∀ w', RdO w' b g l2 → Kept [b] w w' → K (a.put o.dst (.int .u64 D)) w') : if Region.wanted o (yielded ops a.tmps) = true then Oper.wp Tryd.prog o a w K Q else E := by
  subst hD hl2
  exact step_get hgd x y ats ho n hn hev hevn hB h hP hK
theorem step_num2 {ops : Array Oper} {o : Oper} {a : Act} {w : World} {K : Act → World → Prop} {Q : Exit → Act → World → Prop} {E : Prop} (hgd : o.guard = none) (x : Operand) (ats : Array TypeId)
    (ho : o.op = .call { callee := .value (.func 58), args := #[x], argTypes := ats }) {b g : Nat} (hev : a.eval x = .pointer (some ⟨b, 0, none⟩)) {l l2 : List Int} {D : Int} (hD : deb (l.take 4) = D) (hl2 : l.drop 4 = l2) (hB : Byt l) (h : RdO w b g l) (hP : l.length < 4 → Q (.panic shortP) a w)
    (hK : 4 ≤ l.length → ∀ w', RdO w' b g l2 → Kept [b] w w' → K (a.put o.dst (.int .i64 D)) w') : if Region.wanted o (yielded ops a.tmps) = true then Oper.wp Tryd.prog o a w K Q else E := by
  subst hD hl2
  exact step_num hgd x ats ho hev hB h hP hK
/-- What holds in a loop that reads elements: since wB the reader, the code at bc, and the row v alone are written. -/
structure Lp (wB wr : World) (b g bc : Nat) (l : List Int) (cs : Array Value) (e : TypeId) (k : Nat) (v : Value) (n : Nat) (xs : List Value) : Prop where
  kx : KeptX (fun j => j < wB.heap.size ∧ j ≠ bc ∧ j ≠ b) wB wr
  hd : wr.heap[bc]? = some (.cells cs 31 (0, 0))
  rd : RdO wr b g l
  row : Row wr e k v n xs
  own : ∀ j ∈ blk v, wB.heap.size ≤ j
  sz : bc < wB.heap.size ∧ b < wB.heap.size ∧ b ≠ bc ∧ g ≠ bc ∧ g < wB.heap.size
theorem kx_kept {X : Nat → Prop} {wB wr w' : World} {fp : List Nat} (h : KeptX X wB wr) (hk : Kept fp wr w') (hX : ∀ j, X j → j < wB.heap.size ∧ j ∉ fp) : KeptX X wB w' :=
  ⟨hk.os.trans h.os, hk.tape.trans h.tape, hk.output.trans h.output, Nat.le_trans h.size hk.size, fun j hj => (hk.block j (Nat.lt_of_lt_of_le (hX j hj).1 h.size) (hX j hj).2).trans (h.block j hj)⟩
section
variable {wB wr : World} {b g bc : Nat} {l : List Int} {cs : Array Value} {e : TypeId} {k : Nat} {v : Value} {n : Nat} {xs : List Value} (h : Lp wB wr b g bc l cs e k v n xs)
include h
theorem Lp.later {w' : World} (hb : Below wr.heap.size wr w') : Lp wB w' b g bc l cs e k v n xs :=
  ⟨kx_kept h.kx (Kept.ofBelow hb []) (fun j hj => ⟨hj.1, by simp⟩), blk_later hb h.hd, h.rd.later hb, h.row.kept (Kept.ofBelow hb []) (by simp), h.own, h.sz⟩
theorem Lp.read {w' : World} {l2 : List Int} (hk : Kept [b] wr w') (hr : RdO w' b g l2) : Lp wB w' b g bc l2 cs e k v n xs :=
  ⟨kx_kept h.kx hk (fun j hj => ⟨hj.1, by simpa using hj.2.2⟩), hk.heap h.hd (by simpa using Ne.symm h.sz.2.2.1), hr, h.row.kept hk (fun j hj => by have := h.own j hj; have := h.sz.2.1; simp; omega), h.own, h.sz⟩
theorem Lp.push {w2 w3 : World} {v' : Value} {n' : Nat} {xs' : List Value} (hb : Below wr.heap.size wr w2) (hk : Kept (blk v) w2 w3) (hr : Row w3 e k v' n' xs') (hg : ∀ j ∈ blk v', j ∈ blk v ∨ w2.heap.size ≤ j) (i : Nat) :
    Lp wB (w3.setCell ⟨bc, i, none⟩ v') b g bc l (cs.setIfInBounds i v') e k v' n' xs' := by
  have h2 := h.later hb
  have hs := h.sz
  have hbv : bc ∉ blk v := fun hx => by have := h.own bc hx; omega
  have hov : b ∉ blk v := fun hx => by have := h.own b hx; omega
  have hgv : g ∉ blk v := fun hx => by have := h.own g hx; omega
  have s1 := h2.kx.size
  have hown : ∀ j ∈ blk v', wB.heap.size ≤ j := fun j hj => by
    rcases hg j hj with h1 | h1
    · exact h.own j h1
    · omega
  have hks : Kept [bc] w3 (w3.setCell ⟨bc, i, none⟩ v') := (Kept.refl _ _).set _ _ (.inl (by simp))
  refine ⟨kx_kept (kx_kept h2.kx hk fun j hj => ⟨hj.1, fun hx => by have := h.own j hx; omega⟩) hks (fun j hj => ⟨hj.1, by simpa using hj.2.1⟩), blk_set (hk.heap h2.hd hbv) i v', (h2.rd.kept hk hov hgv).kept hks (by simpa using hs.2.2.1) (by simpa using hs.2.2.2.1), hr.kept hks (fun j hj => by have := hown j hj; simp; omega), hown, hs⟩
end
theorem Lp.box {wB wr w' : World} {b g bc : Nat} {l : List Int} {cs : Array Value} {e : TypeId} {k : Nat} {v : Value} {n : Nat} {xs : List Value} (h : Lp wB wr b g bc l cs e k v n xs) {x : Nat} (hk : Kept [x] wr w') (hx : wB.heap.size ≤ x) (hxv : x ∉ blk v) : Lp wB w' b g bc l cs e k v n xs := by
  have hs := h.sz
  exact ⟨kx_kept h.kx hk (fun j hj => ⟨hj.1, by have := hj.1; simp; omega⟩), hk.heap h.hd (by simp; omega), h.rd.kept hk (by simp; omega) (by simp; omega), h.row.kept hk (fun j hj hm => by simp at hm; subst hm; exact hxv hj), h.own, hs⟩
/-- What stands in memory when the places are read: the code at bc. -/
structure Cd1 (w wr : World) (b g bc po o7 : Nat) (l : List Int) (n0 : Nat) (h1 h2 h6 : Int) (ps H : List Int) : Prop where
  hd : wr.heap[bc]? = some (.cells #[.slice (some ⟨po, 0, none⟩) n0 n0, .int .i64 h1, .int .i64 h2, .slice none 0 0, .slice none 0 0, .int .i64 h6, .slice none 0 0] 31 (0, 0))
  ps : Got wr po ps
  rd : RdO wr b g l
  kb : Kept [b] w wr
  hh : Got wr o7 H
  ne : w.heap.size < bc ∧ w.heap.size < po ∧ w.heap.size < o7 ∧ po ≠ bc ∧ o7 ≠ bc
  rz : wr.heap[w.heap.size]? = some (.cells #[.slice none 0 0, .int .i64 0, .int .i64 0, .slice none 0 0, .slice none 0 0, .int .i64 0, .slice none 0 0] 31 (0, 0))
theorem Lp.kb {w wB wr : World} {b g bc : Nat} {l : List Int} {cs : Array Value} {e : TypeId} {k : Nat} {v : Value} {n : Nat} {xs : List Value} (h : Lp wB wr b g bc l cs e k v n xs) (hk : Kept [b] w wB) (hw : w.heap.size ≤ bc) : Kept [b] w wr :=
  ⟨h.kx.os.trans hk.os, h.kx.tape.trans hk.tape, h.kx.output.trans hk.output, Nat.le_trans hk.size h.kx.size, fun j hj hn => (h.kx.block j ⟨Nat.lt_of_lt_of_le hj hk.size, by omega, by simpa using hn⟩).trans (hk.block j hj hn)⟩
theorem infoCh : (Tryd.prog.info? 70).map (fun i => (i.zero, i.size, i.bytes)) = some (some (.agg #[.int .i64 0, .int .i64 0]), 2, 16) := by kernel_rfl
theorem ccells_snoc (l : List (Int × Int)) (x : Int × Int) : ccells l ++ [.int .i64 x.1, .int .i64 x.2] = ccells (l ++ [x]) := by simp [ccells, chCells]
theorem pCh_none {l : List Int} (h : l.length < 8) : pCh l = none := by unfold pCh; rw [if_pos h]
theorem pCh_some {l : List Int} (h : 8 ≤ l.length) : pCh l = some ((deb (l.take 4), deb ((l.drop 4).take 4)), l.drop 8) := by unfold pCh; rw [if_neg (by omega)]
theorem row_keptX {X : Nat → Prop} {w w' : World} {e : TypeId} {k n : Nat} {v : Value} {xs : List Value} (h : Row w e k v n xs) (hk : KeptX X w w') (hX : ∀ j ∈ blk v, X j) : Row w' e k v n xs := by
  obtain ⟨h1, h2⟩ := h
  refine ⟨h1, ?_⟩
  rcases h2 with h2 | ⟨g, cap, cur, rfl, hg, h0, r⟩
  · exact .inl h2
  · have hm : g ∈ blk (.slice (some ⟨g, 0, none⟩) n cap) := by obtain ⟨c, rfl⟩ : ∃ c, cap = c + 1 := ⟨cap - 1, by omega⟩; simp [blk]
    exact .inr ⟨g, cap, cur, rfl, (hk.block g (hX g hm)).trans hg, h0, r⟩
/-- The functions' locals: each in a block of its own. -/
def Los (B : Nat) (w : World) (v : Value) (fs : List Fn) : Prop := ∀ f ∈ fs, ∃ lo : Nat, f.lA = some ⟨lo, 0, none⟩ ∧ (f.lc = f.locals.length ∧ f.locals.length ≤ 1000000) ∧ Got w lo f.locals ∧ B ≤ lo ∧ lo ∉ blk v
theorem Los.kept {B : Nat} {w w' : World} {v : Value} {fs : List Fn} (h : Los B w v fs) {fp : List Nat} (hk : Kept fp w w') (hfp : ∀ j ∈ fp, j < B ∨ j ∈ blk v) : Los B w' v fs := fun f hf => by
  obtain ⟨lo, h1, h2, h3, h4, h5⟩ := h f hf
  refine ⟨lo, h1, h2, hk.heap h3 (fun hx => ?_), h4, h5⟩
  rcases hfp lo hx with h6 | h6
  · omega
  · exact h5 h6
theorem Los.grow {B : Nat} {w : World} {v v' : Value} {fs : List Fn} (h : Los B w v fs) {W : Nat} (hW : ∀ f ∈ fs, ∀ lo : Nat, f.lA = some ⟨lo, 0, none⟩ → lo < W) (hv : ∀ j ∈ blk v', j ∈ blk v ∨ W ≤ j) : Los B w v' fs := fun f hf => by
  obtain ⟨lo, h1, h2, h3, h4, h5⟩ := h f hf
  refine ⟨lo, h1, h2, h3, h4, fun hx => ?_⟩
  rcases hv lo hx with h6 | h6
  · exact h5 h6
  · have := hW f hf lo h1
    omega
theorem Los.lt {B : Nat} {w : World} {v : Value} {fs : List Fn} (h : Los B w v fs) : ∀ f ∈ fs, ∀ lo : Nat, f.lA = some ⟨lo, 0, none⟩ → lo < w.heap.size := fun f hf lo hlo => by
  obtain ⟨l2, h1, _, h3, _, _⟩ := h f hf
  rw [hlo] at h1
  injection h1 with h1
  injection h1 with h1 _ _
  subst h1
  exact blk_lt h3
/-- A function pushed. -/
theorem Los.push {B : Nat} {w W w' : World} {v v' : Value} {fs : List Fn} (h : Los B w v fs) {f : Fn} {lo : Nat} (h1 : f.lA = some ⟨lo, 0, none⟩) (h2 : f.lc = f.locals.length ∧ f.locals.length ≤ 1000000) (h3 : Got w lo f.locals) (h4 : B ≤ lo) (h5 : lo ∉ blk v)
    (hb : Below w.heap.size w W) (hk : Kept (blk v) W w') (hv : ∀ j ∈ blk v', j ∈ blk v ∨ W.heap.size ≤ j) {bc : Nat} (hbc : bc < B) (i : Nat) (x : Value) : Los B (w'.setCell ⟨bc, i, none⟩ x) v' (fs ++ [f]) := by
  have hall : Los B w v (fs ++ [f]) := fun g hg => by
    simp only [List.mem_append, List.mem_singleton] at hg
    rcases hg with hg | rfl
    · exact h g hg
    · exact ⟨lo, h1, h2, h3, h4, h5⟩
  have a1 := hall.kept (Kept.ofBelow hb []) (by simp)
  have a2 := a1.kept hk (fun j hj => .inr hj)
  have a3 := a2.kept (w' := w'.setCell ⟨bc, i, none⟩ x) (fp := [bc]) ((Kept.refl _ _).set _ _ (.inl (by simp))) (fun j hj => by simp at hj; subst hj; exact .inl hbc)
  exact a3.grow a1.lt hv
theorem infoFn : (Tryd.prog.info? 26).map (fun i => (i.zero, i.size, i.bytes)) = some (some (.agg #[.int .i64 0, .int .i64 0, .slice none 0 0]), 3, 40) := by kernel_rfl
theorem infoIn : (Tryd.prog.info? 34).map (fun i => (i.zero, i.size, i.bytes)) = some (some (.agg #[.int .i64 0, .int .i64 0, .int .i64 0, .int .u64 0, .int .i64 0]), 5, 40) := by kernel_rfl
theorem fcells_snoc (l : List Fn) (x : Fn) : fcells l ++ [.int .i64 x.st, .int .i64 x.pa, .slice x.lA x.locals.length x.lc] = fcells (l ++ [x]) := by simp [fcells, Fn.cells]
theorem icells_snoc (l : List Ins) (x : Ins) : icells l ++ [.int .i64 x.op, .int .i64 x.a, .int .i64 x.b, .int .u64 x.bits, .int .i64 x.at_] = icells (l ++ [x]) := by simp [icells, Ins.cells]
theorem pFn_short {l : List Int} (h : l.length < 12) : pFn l = none := by unfold pFn; rw [if_pos h]
theorem pFn_few {l : List Int} (h : l.length < 12 + 4 * (deb ((l.drop 8).take 4)).toNat) : pFn l = none := by
  unfold pFn rdInts
  by_cases h1 : l.length < 12
  · rw [if_pos h1]
  · rw [if_neg h1, if_pos (by rw [List.length_drop]; omega)]
theorem pFn_some {l : List Int} {m : Nat} (hm : deb ((l.drop 8).take 4) = m) (h : 12 + 4 * m ≤ l.length) : pFn l = some ((deb (l.take 4), deb ((l.drop 4).take 4), deb4s m (l.drop 12)), (l.drop 12).drop (4 * m)) := by
  unfold pFn rdInts
  rw [if_neg (by omega), hm, if_neg (by rw [List.length_drop]; simp; omega)]
  simp
theorem pIns_none {l : List Int} (h : l.length < 25) : pIns l = none := by unfold pIns; rw [if_pos h]
theorem pIns_some {l : List Int} (h : 25 ≤ l.length) : pIns l = some (⟨deb (l.take 1), wrap64 (deb ((l.drop 1).take 8)), deb ((l.drop 9).take 4), deb ((l.drop 13).take 8), deb ((l.drop 21).take 4)⟩, l.drop 25) := by unfold pIns; rw [if_neg (by omega)]
/-- What reading a code answers. -/
def CodeR (w : World) (b : Nat) (l : List Int) (e : Ending) (w' : World) : Prop :=
  Kept [b] w w' ∧ ((∃ c : Co, parse l = some c.pl ∧ e = .returned c.agg ∧ ∀ W, KeptX (fun k => w.heap.size ≤ k ∧ k < w'.heap.size) w' W → c.Rep W) ∨ (parse l = none ∧ e = .panicked shortP))
/-- What stands in memory when the channels are read. -/
structure Cd2 (w wr : World) (b bc po o7 : Nat) (n0 : Nat) (ps H : List Int) (vc : Value) (nc : Nat) (chs : List (Int × Int)) : Prop where
  ps : Got wr po ps
  hh : Got wr o7 H
  kb : Kept [b] w wr
  ch : Row wr 70 2 vc nc (ccells chs)
  ne : w.heap.size < bc ∧ w.heap.size < po ∧ w.heap.size < o7 ∧ po ≠ bc ∧ o7 ≠ bc ∧ b < w.heap.size
  cne : ∀ j ∈ blk vc, w.heap.size < j ∧ j ≠ bc
  rz : wr.heap[w.heap.size]? = some (.cells #[.slice none 0 0, .int .i64 0, .int .i64 0, .slice none 0 0, .slice none 0 0, .int .i64 0, .slice none 0 0] 31 (0, 0))
theorem Cd2.keep {w wB wr : World} {b bc po o7 n0 : Nat} {ps H : List Int} {vc : Value} {nc : Nat} {chs : List (Int × Int)} (h : Cd2 w wB b bc po o7 n0 ps H vc nc chs) (hk : KeptX (fun j => j < wB.heap.size ∧ j ≠ bc ∧ j ≠ b) wB wr) : Cd2 w wr b bc po o7 n0 ps H vc nc chs := by
  have hn := h.ne
  refine ⟨(hk.block po ⟨blk_lt h.ps, by omega, by omega⟩).trans h.ps, (hk.block o7 ⟨blk_lt h.hh, by omega, by omega⟩).trans h.hh, ?_, row_keptX h.ch hk fun j hj => ⟨h.ch.lt j hj, (h.cne j hj).2, by have := (h.cne j hj).1; omega⟩, hn, h.cne, (hk.block _ ⟨blk_lt h.rz, by omega, by omega⟩).trans h.rz⟩
  exact ⟨hk.os.trans h.kb.os, hk.tape.trans h.kb.tape, hk.output.trans h.kb.output, Nat.le_trans h.kb.size hk.size, fun j hj hm => (hk.block j ⟨Nat.lt_of_lt_of_le hj h.kb.size, by omega, by simpa using hm⟩).trans (h.kb.block j hj hm)⟩
theorem cd2_of {w wB wr : World} {b g bc po o7 n0 : Nat} {l l' : List Int} {h1 h2 h6 : Int} {ps H : List Int} {cs : Array Value} {v : Value} {n : Nat} {chs : List (Int × Int)} (h : Cd1 w wB b g bc po o7 l n0 h1 h2 h6 ps H) (hb : b < w.heap.size) (hl : Lp wB wr b g bc l' cs 70 2 v n (ccells chs)) : Cd2 w wr b bc po o7 n0 ps H v n chs := by
  have hn := h.ne
  have hk := hl.kx
  have s := h.kb.size
  refine ⟨(hk.block po ⟨blk_lt h.ps, by omega, by omega⟩).trans h.ps, (hk.block o7 ⟨blk_lt h.hh, by omega, by omega⟩).trans h.hh, hl.kb h.kb (Nat.le_of_lt hn.1), hl.row, ⟨hn.1, hn.2.1, hn.2.2.1, hn.2.2.2.1, hn.2.2.2.2, hb⟩, fun j hj => ?_, (hk.block _ ⟨blk_lt h.rz, by omega, by omega⟩).trans h.rz⟩
  have h3 := hl.own j hj
  have h4 := hl.sz.1
  have h5 := blk_lt h.ps
  omega
end Go.Proofs.YtbpbimkadiobfaaDoor
