/-
  Two pools side by side: what is done to other arenas turns none of one's own.
-/
import Derived.Test.YtpjphmpebegidaaDoorPool21
import Derived.Test.YtpjphmpebegidaaDoorPool11
import Derived.Test.YtpjphmpebegidaaDoorArith
import Derived.Test.YtpjphmpebegidaaDoorSame2
import Derived.Test.YtpjphmpebegidaaDoorOpen
namespace Go.Proofs.YtpjphmpebegidaaDoor
open Go.RowKit Go.Stk

theorem ints'_inj {a b : List Nat} (h : ints' a = ints' b) : a = b := by
  induction a generalizing b with
  | nil => cases b with
    | nil => rfl
    | cons y r => simp [ints'] at h
  | cons x s ih => cases b with
    | nil => simp [ints'] at h
    | cons y r =>
      simp only [ints', List.map_cons, List.cons.injEq] at h
      have h1 : (x : Int) = (y : Int) := h.1
      rw [ih h.2, show x = y by omega]
theorem newAr_ok (off n : Nat) : ArOk (newAr off n) := ⟨by simp [newAr], by simp [newAr], fun k r hk => by
  simp only [newAr] at hk ⊢
  rw [List.getElem?_replicate] at hk
  split at hk
  · simp only [Option.some.injEq] at hk
    subst hk
    omega
  · cases hk⟩
theorem newArs_new : ∀ (off : Nat) (ys : List Nat) (i : Nat) (a : Ar), (newArs off ys)[i]? = some a → ∃ o n, a = newAr o n
  | off, [], i, a, h => by simp [newArs] at h
  | off, y :: ys, 0, a, h => by
    simp only [newArs, List.getElem?_cons_zero, Option.some.injEq] at h
    exact ⟨_, _, h.symm⟩
  | off, y :: ys, i + 1, a, h => by
    simp only [newArs, List.getElem?_cons_succ] at h
    exact newArs_new (off + y) ys i a h

/-- Two pools of the same shares: one arena's words and marks are the same in both. -/
structure ApR (w wr : World) (L1 L2 : PLay) (S1 S2 : PS) (ys : List Nat) (own : Nat) (aO : Ar) : Prop where
  p1 : PRep wr L1 S1
  p2 : PRep wr L2 S2
  o1 : ∀ g, L1.own g → w.heap.size ≤ g
  o2 : ∀ g, L2.own g → w.heap.size ≤ g
  dis : ∀ g, L1.own g → ¬ L2.own g
  bl : Below w.heap.size w wr
  ok : ∀ i a, S1.ars[i]? = some a → ArOk a ∧ a.off = (ys.take i).sum ∧ ys[i]? = some a.n
  len : S1.ars.length = ys.length
  same1 : S1.ars[own]? = some aO
  same2 : S2.ars[own]? = some aO
  seg : Seg aO S1.words S2.words
  np1 : S1.np = 256
  np2 : S2.np = 256
section
variable {w wr : World} {L1 L2 : PLay} {S1 S2 : PS} {ys : List Nat} {own : Nat} {aO : Ar} (h : ApR w wr L1 L2 S1 S2 ys own aO)
include h
theorem ApR.later {w' : World} (hb : Below wr.heap.size wr w') : ApR w w' L1 L2 S1 S2 ys own aO :=
  ⟨h.p1.later hb, h.p2.later hb, h.o1, h.o2, h.dis, below_next h.bl hb, h.ok, h.len, h.same1, h.same2, h.seg, h.np1, h.np2⟩
theorem ApR.room {i : Nat} {a : Ar} (ha : S1.ars[i]? = some a) : a.off * 16 + a.n * 16 ≤ S1.words.length := by
  have h1 := (h.p1.ar i a (L1.als[i]'(by rw [h.p1.alen]; exact (List.getElem?_eq_some_iff.1 ha).1)) ha (List.getElem?_eq_getElem _)).2
  have := h.p1.lw
  omega
theorem ApR.room2 : aO.off * 16 + aO.n * 16 ≤ S2.words.length := by
  have h1 := (h.p2.ar own aO (L2.als[own]'(by rw [h.p2.alen]; exact (List.getElem?_eq_some_iff.1 h.same2).1)) h.same2 (List.getElem?_eq_getElem _)).2
  have := h.p2.lw
  omega
/-- After a call on the first pool. -/
theorem ApR.mid {S1' : PS} {v : Value} {e : Ending} {w' : World} (hr : RetP wr L1 S1' v e w') : PRep w' L2 S2 ∧ Below w.heap.size w w' :=
  ⟨h.p2.kept hr.2.2 fun g hg hx => h.dis g (PLay.mem.1 hx) hg, h.bl.trans (hr.2.2.below (fun g hg => h.o1 g (PLay.mem.1 hg)) h.bl.size)⟩
theorem ApR.okNext {k : Nat} {a : Ar} (ha : S1.ars[k]? = some a) (o : Op4) : ∀ i b, (S1.ars.set k (doR a S1.words o).2.1)[i]? = some b → ArOk b ∧ b.off = (ys.take i).sum ∧ ys[i]? = some b.n := by
  intro i b hb
  obtain ⟨h1, h2, h3⟩ := h.ok k a ha
  obtain ⟨q1, q2, q3⟩ := do_plain h1 S1.words (h.room ha) o
  by_cases hk : k = i
  · subst hk
    rw [List.getElem?_set_self (List.getElem?_eq_some_iff.1 ha).1] at hb
    simp only [Option.some.injEq] at hb
    subst hb
    exact ⟨q1, q2.off.trans h2, by rw [q2.n]; exact h3⟩
  · rw [List.getElem?_set_ne hk] at hb
    exact h.ok i b hb
/-- A call on another arena. -/
theorem ApR.other {k : Nat} {a : Ar} (ha : S1.ars[k]? = some a) (hk : k ≠ own) (o : Op4) {v : Value} {e : Ending} {w' : World} (hr : RetP wr L1 { S1 with ars := S1.ars.set k (doR a S1.words o).2.1, words := (doR a S1.words o).2.2 } v e w') :
    ApR w w' L1 L2 { S1 with ars := S1.ars.set k (doR a S1.words o).2.1, words := (doR a S1.words o).2.2 } S2 ys own aO := by
  obtain ⟨h1, h2, h3⟩ := h.ok k a ha
  obtain ⟨g1, g2, g3⟩ := h.ok own aO h.same1
  obtain ⟨q1, q2, q3⟩ := do_plain h1 S1.words (h.room ha) o
  refine ⟨hr.2.1, (h.mid hr).1, h.o1, h.o2, h.dis, (h.mid hr).2, h.okNext ha o, by simpa using h.len, by show (S1.ars.set k _)[own]? = _; rw [List.getElem?_set_ne hk]; exact h.same1, h.same2, fun x hx1 hx2 => ?_, h.np1, h.np2⟩
  show (doR a S1.words o).2.2[x]? = _
  rw [q3.2 x ?_]
  · exact h.seg x hx1 hx2
  · rcases Nat.lt_or_gt_of_ne hk with hlt | hlt
    · have := take_sum_le ys k own hlt _ h3
      omega
    · have := take_sum_le ys own k hlt _ g3
      omega
/-- A call on one's own, in both. -/
theorem ApR.both (o : Op4) {v v2 : Value} {e e2 : Ending} {w1 w2 : World} (hr : RetP wr L1 { S1 with ars := S1.ars.set own (doR aO S1.words o).2.1, words := (doR aO S1.words o).2.2 } v e w1)
    (hr2 : RetP w1 L2 { S2 with ars := S2.ars.set own (doR aO S2.words o).2.1, words := (doR aO S2.words o).2.2 } v2 e2 w2) :
    ApR w w2 L1 L2 { S1 with ars := S1.ars.set own (doR aO S1.words o).2.1, words := (doR aO S1.words o).2.2 } { S2 with ars := S2.ars.set own (doR aO S2.words o).2.1, words := (doR aO S2.words o).2.2 } ys own (doR aO S1.words o).2.1 := by
  obtain ⟨h1, h2, h3⟩ := h.ok own aO h.same1
  obtain ⟨q1, q2, q3⟩ := do_plain h1 S1.words (h.room h.same1) o
  obtain ⟨e1, e2, e3⟩ := do_seg h1 S1.words S2.words (h.room h.same1) h.room2 h.seg o
  have hb := (h.mid hr).2
  refine ⟨hr.2.1.kept hr2.2.2 fun g hg hx => h.dis g hg (PLay.mem.1 hx), hr2.2.1, h.o1, h.o2, h.dis, hb.trans (hr2.2.2.below (fun g hg => h.o2 g (PLay.mem.1 hg)) hb.size), h.okNext h.same1 o, by simpa using h.len, ?_, ?_, ?_, h.np1, h.np2⟩
  · exact List.getElem?_set_self (List.getElem?_eq_some_iff.1 h.same1).1
  · show (S2.ars.set own _)[own]? = _
    rw [e2]
    exact List.getElem?_set_self (List.getElem?_eq_some_iff.1 h.same2).1
  · intro x hx1 hx2
    rw [q2.off] at hx1
    rw [q2.off, q2.n] at hx2
    exact e3 x hx1 hx2
theorem ApR.res (o : Op4) : (doR aO S2.words o).1 = (doR aO S1.words o).1 ∧ (doR aO S2.words o).2.1 = (doR aO S1.words o).2.1 :=
  have q := do_seg (h.ok own aO h.same1).1 S1.words S2.words (h.room h.same1) h.room2 h.seg o
  ⟨q.1, q.2.1⟩
theorem ApR.words : (S1.words.drop (aO.off * 16)).take (aO.n * 16) = (S2.words.drop (aO.off * 16)).take (aO.n * 16) := by
  apply List.ext_getElem?
  intro x
  rw [List.getElem?_take, List.getElem?_take]
  by_cases hx : x < aO.n * 16
  · rw [if_pos hx, if_pos hx, List.getElem?_drop, List.getElem?_drop]
    exact h.seg _ (by omega) (by omega)
  · rw [if_neg hx, if_neg hx]
theorem ApR.notBox {b : Nat} (hb : wr.heap.size ≤ b) : b ∉ L1.fp := fun hx => by
  have := h.p1.lt b (PLay.mem.1 hx)
  omega
end
theorem blk4 {w : World} {b : Nat} {x y z u : Value} {T : TypeId} (h : w.heap[b]? = some (.cells #[x, y, z, u] T (0, 0))) : w.cell? ⟨b, 0, none⟩ = some x ∧ w.cell? ⟨b, 1, none⟩ = some y ∧ w.cell? ⟨b, 2, none⟩ = some z ∧ w.cell? ⟨b, 3, none⟩ = some u :=
  ⟨by rw [blk_cell h]; rfl, by rw [blk_cell h]; rfl, by rw [blk_cell h]; rfl, by rw [blk_cell h]; rfl⟩
theorem apr_start {w w0 w1 w2 : World} {xs : List Int} {e e2 : Ending} (hb : Below w.heap.size w w0) (h1 : Made w0 256 xs e w1) (h2 : Made w1 256 xs e2 w2) (own : Nat) (hown : own < xs.length) :
    ∃ L1 L2 ys aO, e = .returned (.tuple #[.pointer (some ⟨L1.pb, 0, none⟩), .nilIface]) ∧ e2 = .returned (.tuple #[.pointer (some ⟨L2.pb, 0, none⟩), .nilIface]) ∧ xs = ints' ys ∧ ys.sum ≤ 256 ∧ ApR w w2 L1 L2 (newPS 256 ys) (newPS 256 ys) ys own aO := by
  obtain ⟨L1, ys, r1, r2, r3, r4, r5, r6⟩ := h1
  obtain ⟨L2, zs, t1, t2, t3, t4, t5, t6⟩ := h2
  obtain rfl := ints'_inj (r5.symm.trans t5)
  have hl : own < (newArs 0 ys).length := by rw [newArs_len]; rw [r5] at hown; simpa [ints'] using hown
  obtain ⟨aO, ha⟩ : ∃ a, (newArs 0 ys)[own]? = some a := ⟨_, List.getElem?_eq_getElem hl⟩
  have hs := hb.size
  refine ⟨L1, L2, ys, aO, r1, t1, r5, r6, r2.later t4, t2, fun g hg => ?_, fun g hg => ?_, fun g hg hg2 => ?_, below_next (below_next hb r4) t4, fun i a hi => ?_, newArs_len _ _, ha, ha, fun _ _ _ => rfl, rfl, rfl⟩
  · have := r3 g hg; omega
  · have h5 := t3 g hg; have h6 := r4.size; omega
  · have h5 := t3 g hg2; have h6 := r2.lt g hg; omega
  · obtain ⟨o, n, rfl⟩ := newArs_new 0 ys i a hi
    have := newArs_ge 0 ys i _ hi
    exact ⟨newAr_ok o n, by rw [this.1]; simp, this.2⟩
/-- A list of calls in memory. -/
def ocells (os : List Op4) : List Value := os.flatMap Op4.cells
theorem ocells_len (os : List Op4) : (ocells os).length = os.length * 4 := flat_len (f := Op4.cells) (k := 4) (fun _ => rfl) os
theorem ocells_at {w : World} {A : Option Addr} {os : List Op4} (h : Rs w A (ocells os)) (k : Nat) (o : Op4) (hk : os[k]? = some o) : ∃ b off, A = some ⟨b, off, none⟩ ∧ w.cell? ⟨b, off + k * 4, none⟩ = some (.int .i64 o.k) ∧ w.cell? ⟨b, off + k * 4 + 1, none⟩ = some (.int .i64 o.a) ∧ w.cell? ⟨b, off + k * 4 + 2, none⟩ = some (.int .i64 o.t) ∧ w.cell? ⟨b, off + k * 4 + 3, none⟩ = some (.int .i64 o.v) := by
  have hl := (List.getElem?_eq_some_iff.1 hk).1
  obtain ⟨b, off, e, hc⟩ := h (by rw [ocells_len]; omega)
  have hget : ∀ j, j < 4 → (ocells os)[k * 4 + j]? = (Op4.cells o)[j]? := fun j hj => by
    have := flat_get (f := Op4.cells) (k := 4) (fun _ => rfl) os k j hj
    unfold ocells
    rw [this, hk]; rfl
  have hcell : ∀ j x, j < 4 → (Op4.cells o)[j]? = some x → w.cell? ⟨b, off + (k * 4 + j), none⟩ = some x := fun j x hj hx => by
    rw [hc (k * 4 + j) (by rw [ocells_len]; omega)]
    rw [← hx, ← hget j hj, List.getElem?_eq_getElem]
  exact ⟨b, off, e, by have := hcell 0 _ (by omega) rfl; simpa using this, by have := hcell 1 _ (by omega) rfl; simpa [Nat.add_assoc] using this, by have := hcell 2 _ (by omega) rfl; simpa [Nat.add_assoc] using this, by have := hcell 3 _ (by omega) rfl; simpa [Nat.add_assoc] using this⟩
theorem RI.cutIf {w : World} {g cv : Nat} {xs : List Int} (h : RI w (some ⟨g, 0, none⟩) xs) (k n : Nat) (hcv : xs.length ≤ cv) : RI w (if cv = k then some ⟨g, 0, none⟩ else some ⟨g, k, none⟩) ((xs.drop k).take n) := by
  have h1 : Rd w (some ⟨g, 0, none⟩) (ints xs) := h
  refine ⟨by have := h1.1; simp at this; simp; omega, fun hl => ?_⟩
  simp at hl
  rw [if_neg (by omega)]
  obtain ⟨b, off, e, hc⟩ := h1.2 (by simp; omega)
  simp at e
  obtain ⟨rfl, rfl⟩ := e
  refine ⟨g, k, rfl, fun j hj => ?_⟩
  simp at hj
  have h2 := hc (k + j) (by simp; omega)
  simp only [Nat.zero_add] at h2
  rw [h2]
  simp [ints]
theorem RI.cutAs {w : World} {g cv : Nat} {xs : List Int} (h : RI w (some ⟨g, 0, none⟩) xs) (k n : Nat) (hcv : xs.length ≤ cv) {A : Option Addr} (hA : (if cv = k then some ⟨g, 0, none⟩ else some ⟨g, k, none⟩) = A) : RI w A ((xs.drop k).take n) := by rw [← hA]; exact RI.cutIf h k n hcv
theorem same_sl (xs ys : List Int) (A B : Option Addr) (na nb ca cb : Nat) (w : World) (hx : RI w A xs) (hy : RI w B ys) (he : ys = xs) (ha : xs.length = na) (hb : xs.length = nb) : Calls Tryd.prog 23 #[.slice A na ca, .slice B nb cb] w (Ret w (.bool true)) := by
  subst he ha hb
  have := sameInts_any ys ys A B ca cb w hx hy
  rw [show decide (ys = ys) = true from decide_eq_true rfl] at this
  exact this
end Go.Proofs.YtpjphmpebegidaaDoor
