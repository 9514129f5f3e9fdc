/-
  Memory by blocks: what is kept beside a list of blocks; rows of a call's own, empty ones at whatever address.
-/
import Derived.Test.YtbpbimkadiobfaaDoorRet
namespace Go.Stk
open Go.RowKit

/-- The blocks named, and new ones, may have turned; no other. -/
structure Kept (fp : List Nat) (w w' : World) : Prop where
  os : w'.os = w.os
  tape : w'.tape = w.tape
  output : w'.output = w.output
  size : w.heap.size ≤ w'.heap.size
  block : ∀ k, k < w.heap.size → k ∉ fp → w'.heap[k]? = w.heap[k]?

theorem Kept.refl (fp : List Nat) (w : World) : Kept fp w w := ⟨rfl, rfl, rfl, Nat.le_refl _, fun _ _ _ => rfl⟩
theorem Kept.trans {fp fp2 : List Nat} {a b c : World} (h : Kept fp a b) (k : Kept fp2 b c) (hs : ∀ i ∈ fp2, i ∈ fp ∨ a.heap.size ≤ i) : Kept fp a c :=
  ⟨k.os.trans h.os, k.tape.trans h.tape, k.output.trans h.output, Nat.le_trans h.size k.size, fun i hi hn =>
    (k.block i (Nat.lt_of_lt_of_le hi h.size) (fun hm => by rcases hs i hm with h1 | h1; exact hn h1; omega)).trans (h.block i hi hn)⟩
theorem Kept.mono {fp fp2 : List Nat} {a b : World} (h : Kept fp a b) (hs : ∀ i ∈ fp, i ∈ fp2) : Kept fp2 a b :=
  ⟨h.os, h.tape, h.output, h.size, fun i hi hn => h.block i hi (fun hm => hn (hs i hm))⟩
theorem Kept.ofBelow {w w' : World} (h : Below w.heap.size w w') (fp : List Nat) : Kept fp w w' := ⟨h.os, h.tape, h.output, h.size, fun i hi _ => h.block i hi⟩
theorem Kept.below {fp : List Nat} {B : Nat} {w w' : World} (h : Kept fp w w') (hf : ∀ i ∈ fp, B ≤ i) (hB : B ≤ w.heap.size) : Below B w w' :=
  ⟨h.os, h.tape, h.output, h.size, fun i hi => h.block i (by omega) (fun hm => by have := hf i hm; omega)⟩
theorem Kept.below0 {w w' : World} (h : Kept [] w w') : Below w.heap.size w w' := h.below (by simp) (Nat.le_refl _)
theorem Kept.next {fp : List Nat} {a b c : World} (h : Kept fp a b) (k : Below b.heap.size b c) : Kept fp a c := h.trans (Kept.ofBelow k []) (by simp)
theorem Kept.alloc {fp : List Nat} {a b : World} (h : Kept fp a b) (o : Obj) : Kept fp a (b.alloc o) := h.next ((Below.refl _ _).alloc (Nat.le_refl _) o)
theorem Kept.drew {fp : List Nat} {a b : World} (h : Kept fp a b) : Kept fp a b.drew := ⟨h.os, h.tape, h.output, h.size, h.block⟩
theorem Kept.drewN {fp : List Nat} {a b : World} (h : Kept fp a b) (n : Nat) : Kept fp a (b.drewN n) := ⟨h.os, h.tape, h.output, h.size, h.block⟩
theorem Kept.set {fp : List Nat} {a b : World} (h : Kept fp a b) (p : Addr) (u : Value) (hp : p.block ∈ fp ∨ a.heap.size ≤ p.block) : Kept fp a (b.setCell p u) :=
  h.trans (fp2 := [p.block]) ⟨rfl, rfl, rfl, by simp [World.setCell], fun k _ hk => Below.heap_setCell _ _ _ _ (by simpa using hk)⟩ (by simpa using hp)
theorem Kept.heap {fp : List Nat} {w w' : World} (h : Kept fp w w') {k : Nat} {o : Obj} (hk : w.heap[k]? = some o) (hn : k ∉ fp) : w'.heap[k]? = some o :=
  (h.block k (Array.getElem?_eq_some_iff.1 hk).1 hn).trans hk
theorem Kept.cell {fp : List Nat} {w w' : World} (h : Kept fp w w') {a : Addr} {v : Value} (hc : w.cell? a = some v) (hn : a.block ∉ fp) : w'.cell? a = some v := by
  rw [← hc]; exact World.cell?_of_block (h.block _ (cell_lt hc) hn)
theorem Kept.frozen {fp : List Nat} {w w' : World} (h : Kept fp w w') {a : Addr} (hl : a.block < w.heap.size) (hn : a.block ∉ fp) : w'.frozen? a = w.frozen? a :=
  World.frozen?_of_block (h.block _ hl hn)
theorem Kept.rd {fp : List Nat} {w w' : World} (h : Kept fp w w') {A : Option Addr} {cs : List Value} (hr : Rd w A cs) (hn : ∀ a, A = some a → a.block ∉ fp) : Rd w' A cs :=
  ⟨hr.1, fun hl => by
    obtain ⟨b, off, e, hc⟩ := hr.2 hl
    exact ⟨b, off, e, fun j hj => h.cell (hc j hj) (by have := hn _ e; exact this)⟩⟩
theorem Kept.ri {fp : List Nat} {w w' : World} (h : Kept fp w w') {A : Option Addr} {cs : List Int} (hr : RI w A cs) (hn : ∀ a, A = some a → a.block ∉ fp) : RI w' A cs := h.rd hr hn

/-! ### A block known whole -/
theorem blk_cell {w : World} {b : Nat} {c : Array Value} {T : TypeId} (h : w.heap[b]? = some (.cells c T (0, 0))) (i : Nat) : w.cell? ⟨b, i, none⟩ = c[i]? := by simp [World.cell?, h]
theorem blk_free {w : World} {b : Nat} {c : Array Value} {T : TypeId} (h : w.heap[b]? = some (.cells c T (0, 0))) (i : Nat) : w.frozen? ⟨b, i, none⟩ = false := by simp [World.frozen?, h]
theorem blk_lt {w : World} {b : Nat} {o : Obj} (h : w.heap[b]? = some o) : b < w.heap.size := (Array.getElem?_eq_some_iff.1 h).1
theorem blk_set {w : World} {b : Nat} {c : Array Value} {T : TypeId} (h : w.heap[b]? = some (.cells c T (0, 0))) (i : Nat) (u : Value) : (w.setCell ⟨b, i, none⟩ u).heap[b]? = some (.cells (c.setIfInBounds i u) T (0, 0)) := by
  have hb := blk_lt h
  simp only [World.setCell, Array.getElem?_modify, if_true, h, Option.map_some]
  rfl
theorem blk_set_ne {w : World} {b : Nat} {o : Obj} (h : w.heap[b]? = some o) (p : Addr) (u : Value) (hp : b ≠ p.block) : (w.setCell p u).heap[b]? = some o := by
  rw [Below.heap_setCell _ _ _ _ hp]; exact h
theorem blk_new (w : World) (o : Obj) : (w.alloc o).heap[w.heap.size]? = some o := by
  show (w.heap.push o)[w.heap.size]? = some o
  simp
theorem blk_alloc {w : World} {b : Nat} {o : Obj} (h : w.heap[b]? = some o) (o2 : Obj) : (w.alloc o2).heap[b]? = some o := by
  rw [Below.heap_alloc _ _ _ (blk_lt h)]; exact h

theorem blk3 {w : World} {k : Nat} {a b c : Value} {T : TypeId} (h : w.heap[k]? = some (.cells #[a, b, c] T (0, 0))) : w.cell? ⟨k, 0, none⟩ = some a ∧ w.cell? ⟨k, 1, none⟩ = some b ∧ w.cell? ⟨k, 2, none⟩ = some c ∧ w.frozen? ⟨k, 0, none⟩ = false ∧ w.frozen? ⟨k, 1, none⟩ = false ∧ w.frozen? ⟨k, 2, none⟩ = false ∧ k < w.heap.size :=
  ⟨by rw [blk_cell h]; rfl, by rw [blk_cell h]; rfl, by rw [blk_cell h]; rfl, blk_free h _, blk_free h _, blk_free h _, blk_lt h⟩
theorem blk_new2 (w : World) (o o2 : Obj) : ((w.alloc o).alloc o2).heap[w.heap.size + 1]? = some o2 := by
  have := blk_new (w.alloc o) o2
  rwa [show (w.alloc o).heap.size = w.heap.size + 1 by simp] at this
theorem blk_later {w w1 : World} {k : Nat} {o : Obj} (hb : Below w.heap.size w w1) (h : w.heap[k]? = some o) : w1.heap[k]? = some o := (hb.block k (blk_lt h)).trans h

/-! ### Rows -/
/-- The block that a slice value may write. -/
def blk : Value → List Nat
  | .slice (some a) _ (_ + 1) => [a.block]
  | _ => []
/-- A slice of n elements of k cells each, the call's own; an empty one without room may point anywhere. -/
def Row (w : World) (e : TypeId) (k : Nat) (v : Value) (n : Nat) (xs : List Value) : Prop :=
  xs.length = n * k ∧ ((n = 0 ∧ ∃ A, v = .slice A 0 0) ∨
    ∃ g cap cur, v = .slice (some ⟨g, 0, none⟩) n cap ∧ w.heap[g]? = some (.cells cur e (0, 0)) ∧ 0 < cap ∧ n ≤ cap ∧ cap ≤ maxLen ∧ cur.size = cap * k ∧ cur.toList.take (n * k) = xs)

theorem Row.lt {w : World} {e : TypeId} {k n : Nat} {v : Value} {xs : List Value} (h : Row w e k v n xs) : ∀ g ∈ blk v, g < w.heap.size := by
  rcases h.2 with ⟨_, A, rfl⟩ | ⟨g, cap, cur, rfl, hg, _⟩
  · cases A <;> simp [blk]
  · intro g' hg'
    cases cap <;> simp [blk] at hg'
    subst hg'
    exact blk_lt hg
theorem Row.kept {w w' : World} {e : TypeId} {k n : Nat} {v : Value} {xs : List Value} {fp : List Nat} (h : Row w e k v n xs) (hk : Kept fp w w') (hd : ∀ g ∈ blk v, g ∉ fp) : Row w' e k v n xs := by
  obtain ⟨h1, h2⟩ := h
  refine ⟨h1, ?_⟩
  rcases h2 with h2 | ⟨g, cap, cur, rfl, hg, h0, r⟩
  · exact .inl h2
  · refine .inr ⟨g, cap, cur, rfl, hk.heap hg ?_, h0, r⟩
    exact hd g (by obtain ⟨c, rfl⟩ : ∃ c, cap = c + 1 := ⟨cap - 1, by omega⟩; simp [blk])
theorem Row.form {w : World} {e : TypeId} {k n : Nat} {v : Value} {xs : List Value} (h : Row w e k v n xs) : ∃ A c, v = .slice A n c ∧ n ≤ c ∧ c ≤ maxLen ∧ (A = none → c = 0) ∧ xs.length = n * k := by
  rcases h.2 with ⟨rfl, A, rfl⟩ | ⟨g, cap, cur, rfl, hg, h0, h1, h2, _⟩
  · exact ⟨A, 0, rfl, Nat.le_refl _, by simp [maxLen], fun _ => rfl, h.1⟩
  · exact ⟨_, cap, rfl, h1, h2, by simp, h.1⟩
theorem Row.mid {w : World} {e : TypeId} {k n : Nat} {v : Value} {xs : List Value} (h : Row w e k v n xs) (hn : 0 < n) :
    ∃ g cap, v = .slice (some ⟨g, 0, none⟩) n cap ∧ blk v = [g] ∧ n ≤ cap ∧ cap ≤ maxLen ∧ g < w.heap.size ∧ (∀ j u, xs[j]? = some u → w.cell? ⟨g, j, none⟩ = some u) ∧ (∀ j, w.frozen? ⟨g, j, none⟩ = false) := by
  rcases h.2 with ⟨rfl, A, rfl⟩ | ⟨g, cap, cur, rfl, hg, h0, h1, h2, h3, h4⟩
  · omega
  · refine ⟨g, cap, rfl, by obtain ⟨c, rfl⟩ : ∃ c, cap = c + 1 := ⟨cap - 1, by omega⟩; simp [blk], h1, h2, blk_lt hg, fun j u hj => ?_, fun j => blk_free hg j⟩
    rw [blk_cell hg]
    have hj2 : j < n * k := by have := (List.getElem?_eq_some_iff.1 hj).1; have := h.1; omega
    rw [← h4] at hj
    rw [List.getElem?_take, if_pos hj2] at hj
    simpa using hj
theorem Row.set {w : World} {e : TypeId} {k n c g : Nat} {xs : List Value} (h : Row w e k (.slice (some ⟨g, 0, none⟩) n c) n xs) (j : Nat) (u : Value) (hj : j < n * k) : Row (w.setCell ⟨g, j, none⟩ u) e k (.slice (some ⟨g, 0, none⟩) n c) n (xs.set j u) := by
  obtain ⟨h1, h2⟩ := h
  refine ⟨by simpa using h1, ?_⟩
  rcases h2 with ⟨rfl, A, h2⟩ | ⟨g', cap, cur, he, hg, h0, h3, h4, h5, h6⟩
  · simp at hj
  · simp only [Value.slice.injEq, Option.some.injEq, Addr.mk.injEq, and_true, true_and] at he
    obtain ⟨rfl, rfl⟩ := he
    refine .inr ⟨g, c, _, rfl, blk_set hg j u, h0, h3, h4, by simpa using h5, ?_⟩
    rw [Array.toList_setIfInBounds, List.take_set, h6]
theorem Row.empty (w : World) (e : TypeId) (k : Nat) (A : Option Addr) : Row w e k (.slice A 0 0) 0 [] := ⟨by simp, .inl ⟨rfl, A, rfl⟩⟩
theorem Row.nil {w : World} {e : TypeId} {k : Nat} {v : Value} {xs : List Value} (h : Row w e k v 0 xs) : xs = [] := List.eq_nil_of_length_eq_zero (by simpa using h.1)
/-- A block just made, whole. -/
theorem Row.new {w : World} {e : TypeId} {g k m : Nat} {cs : Array Value} (hg : w.heap[g]? = some (.cells cs e (0, 0))) (hs : cs.size = m * k) (hm : m ≤ maxLen) : Row w e k (.slice (some ⟨g, 0, none⟩) m m) m cs.toList := by
  refine ⟨by simpa using hs, ?_⟩
  by_cases h0 : m = 0
  · subst h0
    exact .inl ⟨rfl, _, rfl⟩
  · exact .inr ⟨g, m, cs, rfl, hg, by omega, Nat.le_refl _, hm, hs, by rw [List.take_of_length_le (by simp [hs])]⟩

section
variable {P : Program} (w : World)
/-- append: the row's own, what is appended reads as a list. -/
theorem run_append_row (t ty e : TypeId) (i : TypeInfo) (z : Value) (k bytes : Nat) (ht : P.underlying t = some (.slice e)) (hi : P.info? e = some i) (hz : i.zero = some z)
    (hsize : i.size = k) (hby : i.bytes = bytes) (hzs : z.cells.size = k) (hsz : 0 < k)
    (v : Value) (n : Nat) (xs : List Value) (hown : Row w e k v n xs)
    (A : Option Addr) (m c : Nat) (news : List Value) (hl : news.length = m * k) (hA : A = none → c = 0) (hmc : m ≤ c) (hnews : Rd w A news) (h1 : ∀ u ∈ news, u.oneCell' = true)
    (h63 : n + m ≤ maxLen) (hbytes : (n + m) * bytes ≤ 140737488355328) :
    ∃ v' w', (Builtin.append_ #[t, t] ty #[v, .slice A m c]).run P w = .ok v' w' ∧ Row w' e k v' (n + m) (xs ++ news) ∧ Kept (blk v) w w' ∧ (∀ g ∈ blk v', g ∈ blk v ∨ w.heap.size ≤ g) := by
  subst hsize
  subst hby
  have hwhen : ∀ b off, A = some ⟨b, off, none⟩ → (∀ j (h : j < news.length), w.cell? ⟨b, off + j, none⟩ = some news[j]) → ∀ j u, news[j]? = some u → w.cell? ((⟨b, off, none⟩ : Addr).add j) = some u := by
    intro b off _ hc j u hj
    have hjl : j < news.length := (List.getElem?_eq_some_iff.1 hj).1
    rw [Go.WideShapes.add_plain, hc j hjl]
    rw [List.getElem?_eq_getElem hjl] at hj
    exact hj
  rcases hown.2 with ⟨rfl, A0, rfl⟩ | ⟨g, cap, cur, rfl, hg, hc0, hnc, hcm, hcs, htake⟩
  · obtain rfl := hown.nil
    by_cases hm : m = 0
    · subst hm
      have hn : news = [] := List.eq_nil_of_length_eq_zero (by simpa using hl)
      subst hn
      refine ⟨.slice A0 0 0, w, ?_, by simpa using hown, Kept.refl _ _, fun g hg => .inl hg⟩
      cases A0 <;> cases A <;> simp [Builtin.append_, run_underlying ht, sizeOf, typeInfo, hi, Builtin.lenOf, Builtin.firstCells, loadCells, loadCellsFrom, storeCells]
    · have hpos : 0 < news.length := by rw [hl]; exact Nat.mul_pos (by omega) hsz
      obtain ⟨b, off, rfl, hc⟩ := hnews.2 hpos
      have hcell := hwhen b off rfl hc
      simp only [Nat.zero_add] at h63 hbytes
      have h63' : (m : Int) ≤ 9223372036854775807 := by simp only [maxLen] at h63; omega
      have hge := grownCap_ge w m 0 e
      have hcap : grownCap w m 0 e ≤ maxLen := grownCap_le_maxLen w m 0 e h63
      have fin : Row (w.drew.alloc (.cells (news.toArray ++ Builtin.zeroCells z.cells (grownCap w m 0 e - m)) e)) e i.size (.slice (some ⟨w.heap.size, 0, none⟩) m (grownCap w m 0 e)) (0 + m) ([] ++ news) := by
        rw [Nat.zero_add, List.nil_append]
        refine ⟨hl, .inr ⟨w.heap.size, _, _, rfl, blk_new w.drew _, by omega, hge, hcap, ?_, ?_⟩⟩
        · simp only [Array.size_append, List.size_toArray, size_zeroCells, hzs, hl, ← Nat.add_mul]
          congr 1
          omega
        · simp only [Array.toList_append, ← hl]
          exact List.take_left
      have fin2 : Kept [] w (w.drew.alloc (.cells (news.toArray ++ Builtin.zeroCells z.cells (grownCap w m 0 e - m)) e)) := ((Kept.refl [] w).drew).alloc _
      cases A0 with
      | none =>
        have hr := run_append_nil (P := P) w t ty e i z ht hi hz ⟨b, off, none⟩ m c news hl hcell (by omega) h63' (by omega)
        exact ⟨_, _, hr, fin, fin2.mono (by simp), fun g hg => .inr (by cases hgc : grownCap w m 0 e <;> simp [hgc, blk] at hg; omega)⟩
      | some a0 =>
        have hr := run_append_grow (P := P) w t ty e i z ht hi hz a0 0 0 [] (by simp) (by simp) ⟨b, off, none⟩ m c news hl hcell (by omega) (by simpa using h63') (growslice_fits (by omega) (by simpa using hbytes))
        simp only [Nat.zero_add, Array.empty_append] at hr
        refine ⟨_, _, hr, fin, fin2.mono (by simp), fun g hg => .inr (by cases hgc : grownCap w m 0 e <;> simp [hgc, blk] at hg; omega)⟩
  · have hb : blk (.slice (some ⟨g, 0, none⟩) n cap) = [g] := by obtain ⟨c', rfl⟩ : ∃ c', cap = c' + 1 := ⟨cap - 1, by omega⟩; simp [blk]
    rw [hb]
    have ho : w.ownsRow 0 e i.size (.slice (some ⟨g, 0, none⟩) n cap) n xs := ⟨hown.1, .inr ⟨g, cap, cur, rfl, Nat.zero_le _, hg, hnc, hcm, hcs, htake⟩⟩
    have hback : ∀ {w' : World} {v' : Value} {n' : Nat} {ys : List Value}, w'.ownsRow 0 e i.size v' n' ys → Row w' e i.size v' n' ys := by
      intro w' v' n' ys h
      obtain ⟨h1, h2⟩ := h
      refine ⟨h1, ?_⟩
      rcases h2 with ⟨rfl, rfl⟩ | ⟨g', cap', cur', rfl, _, hg', hn', hm', hs', ht'⟩
      · exact .inl ⟨rfl, none, rfl⟩
      · by_cases h0 : cap' = 0
        · subst h0
          obtain rfl : n' = 0 := by omega
          exact .inl ⟨rfl, _, rfl⟩
        · exact .inr ⟨g', cap', cur', rfl, hg', by omega, hn', hm', hs', ht'⟩
    cases A with
    | none =>
      obtain rfl := hA rfl
      obtain rfl : m = 0 := by omega
      have hn : news = [] := List.eq_nil_of_length_eq_zero (by simpa using hl)
      subst hn
      exact ⟨_, _, run_append_owned_none (P := P) (w := w) 0 t ty e i i.size ht hi _ n xs ho, by simpa using hown, Kept.refl _ _, fun g' hg' => .inl (by rw [hb] at hg'; exact hg')⟩
    | some ad =>
      have hcell : ∀ j u, news[j]? = some u → w.cell? (ad.add j) = some u := by
        intro j u hj
        have hjl : j < news.length := (List.getElem?_eq_some_iff.1 hj).1
        obtain ⟨b, off, e1, hc⟩ := hnews.2 (by omega)
        injection e1 with e1
        subst e1
        exact hwhen b off rfl hc j u hj
      obtain ⟨v', w', hr, h2, h3, _, h5⟩ := run_append_own_at (P := P) w 0 t ty e i z i.size i.bytes ht hi hz rfl rfl hzs hsz _ n xs ho ad m c news hl hcell h1 h63 hbytes (Nat.zero_le _)
      refine ⟨v', w', hr, hback h2, ⟨h3.os, h3.tape, h3.output, h3.size, fun k hk hn => h3.block k hk (fun e2 => hn (by simpa [Value.ownBlock] using e2))⟩, fun g' hg' => ?_⟩
      have hin : v'.ownBlock = some g' := by
        match v', hg' with
        | .slice (some a) _ (_ + 1), hg' => simp [blk] at hg'; simp [Value.ownBlock, hg']
      rcases h5 with h5 | h5
      · rw [hin] at h5
        simp [Value.ownBlock] at h5
        exact .inl (by simp [h5])
      · rw [hin] at h5
        injection h5 with h5
        exact .inr (by omega)

end
section
variable {P : Program} {ops : Array Oper} {rest : List Oper} {o : Oper} {a : Act} {Q : Exit → Act → World → Prop}
/-- At the operation. -/
theorem append_row {w : World} (hgd : o.guard = none) (s x : Operand) (t e : TypeId) (z : Value) (k bytes : Nat)
    (ho : o.op = .call { callee := .builtin .append, args := #[s, x], argTypes := #[t, t] })
    (ht : P.underlying t = some (.slice e)) (hinfo : (P.info? e).map (fun i => (i.zero, i.size, i.bytes)) = some (some z, k, bytes)) (hzs : z.cells.size = k) (hsz : 0 < k)
    (v : Value) (n : Nat) (xs : List Value) (hs : a.eval s = v) (hown : Row w e k v n xs)
    (A : Option Addr) (m c : Nat) (news : List Value) (hx : a.eval x = .slice A m c) (hl : news.length = m * k) (hA : A = none → c = 0) (hmc : m ≤ c) (hnews : Rd w A news) (h1 : ∀ u ∈ news, u.oneCell' = true)
    (h63 : n + m ≤ maxLen) (hbytes : (n + m) * bytes ≤ 140737488355328)
    (h : ∀ v' w', Row w' e k v' (n + m) (xs ++ news) → Kept (blk v) w w' → (∀ g ∈ blk v', g ∈ blk v ∨ w.heap.size ≤ g) → wpList P ops Q rest (a.put o.dst v') w') :
    wpList P ops Q (o :: rest) a w := by
  obtain ⟨i, hi, hzz⟩ := Option.map_eq_some_iff.1 hinfo
  simp only [Prod.mk.injEq] at hzz
  obtain ⟨hz0, hz1, hz2⟩ := hzz
  refine wpList_plain hgd fun K hK => ?_
  obtain ⟨v', w', hr, h2, h3, h4⟩ := run_append_row (P := P) w t o.type e i z k bytes ht hi hz0 hz1 hz2 hzs hsz v n xs hown A m c news hl hA hmc hnews h1 h63 hbytes
  unfold Oper.wp execOp
  simp only [ho, resolve, invoke, builtin, Sem.run_bind, Sem.run_pure, Result.andThen_ok, List.map_toArray, List.map_cons, List.map_nil, hs, hx, hr]
  exact hK _ _ (h v' w' h2 h3 h4)
/-- At a step of a region that draws its order. -/
theorem step_append_row {ops : Array Oper} {o : Oper} {a : Act} {w : World} {K : Act → World → Prop} {Q : Exit → Act → World → Prop} {E : Prop} (hgd : o.guard = none) (s x : Operand) (t e : TypeId) (z : Value) (k bytes : Nat)
    (ho : o.op = .call { callee := .builtin .append, args := #[s, x], argTypes := #[t, t] })
    (ht : P.underlying t = some (.slice e)) (hinfo : (P.info? e).map (fun i => (i.zero, i.size, i.bytes)) = some (some z, k, bytes)) (hzs : z.cells.size = k) (hsz : 0 < k)
    (v : Value) (n : Nat) (xs : List Value) (hs : a.eval s = v) (hown : Row w e k v n xs)
    (A : Option Addr) (m c : Nat) (news : List Value) (hx : a.eval x = .slice A m c) (hl : news.length = m * k) (hA : A = none → c = 0) (hmc : m ≤ c) (hnews : Rd w A news) (h1 : ∀ u ∈ news, u.oneCell' = true)
    (h63 : n + m ≤ maxLen) (hbytes : (n + m) * bytes ≤ 140737488355328)
    (h : ∀ v' w', Row w' e k v' (n + m) (xs ++ news) → Kept (blk v) w w' → (∀ g ∈ blk v', g ∈ blk v ∨ w.heap.size ≤ g) → K (a.put o.dst v') w') :
    if Region.wanted o (yielded ops a.tmps) = true then Oper.wp P o a w K Q else E := by
  have hw : Region.wanted o (yielded ops a.tmps) = true := by simp [Region.wanted, hgd]
  rw [if_pos hw]
  obtain ⟨i, hi, hzz⟩ := Option.map_eq_some_iff.1 hinfo
  simp only [Prod.mk.injEq] at hzz
  obtain ⟨hz0, hz1, hz2⟩ := hzz
  obtain ⟨v', w', hr, h2, h3, h4⟩ := run_append_row (P := P) w t o.type e i z k bytes ht hi hz0 hz1 hz2 hzs hsz v n xs hown A m c news hl hA hmc hnews h1 h63 hbytes
  unfold Oper.wp execOp
  simp only [ho, resolve, invoke, builtin, Sem.run_bind, Sem.run_pure, Result.andThen_ok, List.map_toArray, List.map_cons, List.map_nil, hs, hx, hr]
  exact h v' w' h2 h3 h4
end
end Go.Stk
