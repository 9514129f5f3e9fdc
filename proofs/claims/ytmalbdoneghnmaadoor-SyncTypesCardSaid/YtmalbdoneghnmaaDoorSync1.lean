/-
  What goroutines share: how a state lies in memory.
-/
import Derived.Test.YtmalbdoneghnmaaDoorProg
import Derived.Test.YtmalbdoneghnmaaDoorHeap
import Derived.Test.YtmalbdoneghnmaaDoorFlat
namespace Go.Proofs.YtmalbdoneghnmaaDoor
open Go.RowKit Go.Stk

structure Ch where
  t : Int
  room : Int
  held : List Val
structure St where
  places : List Val
  locked : List Bool
  chans : List Ch
  atomics : List Int
theorem cells_len (v : Val) : v.cells.length = 3 := rfl
def vcells (l : List Val) : List Value := l.flatMap Val.cells
def bcells (l : List Bool) : List Value := l.map Value.bool
def qcell (x : Ch × Value) : List Value := [.int .i64 x.1.t, .int .i64 x.1.room, x.2]
theorem qcell_len (x : Ch × Value) : (qcell x).length = 3 := rfl
def qcells (l : List Ch) (hs : List Value) : List Value := (l.zip hs).flatMap qcell
structure Lay where
  b : Nat
  vp : Value
  vm : Value
  vc : Value
  va : Value
  hs : List Value
/-- The blocks of a state. -/
def Lay.own (L : Lay) (g : Nat) : Prop := g = L.b ∨ g ∈ blk L.vp ∨ g ∈ blk L.vm ∨ g ∈ blk L.vc ∨ g ∈ blk L.va ∨ ∃ v ∈ L.hs, g ∈ blk v
def Lay.fp (L : Lay) : List Nat := L.b :: (blk L.vp ++ (blk L.vm ++ (blk L.vc ++ (blk L.va ++ L.hs.flatMap blk))))
theorem Lay.mem {L : Lay} {g : Nat} : g ∈ L.fp ↔ L.own g := by simp [Lay.fp, Lay.own, List.mem_flatMap]
/-- No two of them are one. -/
structure Lay.Sep (L : Lay) : Prop where
  bp : L.b ∉ blk L.vp
  bm : L.b ∉ blk L.vm
  bc : L.b ∉ blk L.vc
  ba : L.b ∉ blk L.va
  bh : ∀ v ∈ L.hs, L.b ∉ blk v
  pm : ∀ g ∈ blk L.vp, g ∉ blk L.vm
  pc : ∀ g ∈ blk L.vp, g ∉ blk L.vc
  pa : ∀ g ∈ blk L.vp, g ∉ blk L.va
  ph : ∀ v ∈ L.hs, ∀ g ∈ blk L.vp, g ∉ blk v
  mc : ∀ g ∈ blk L.vm, g ∉ blk L.vc
  ma : ∀ g ∈ blk L.vm, g ∉ blk L.va
  mh : ∀ v ∈ L.hs, ∀ g ∈ blk L.vm, g ∉ blk v
  ca : ∀ g ∈ blk L.vc, g ∉ blk L.va
  ch : ∀ v ∈ L.hs, ∀ g ∈ blk L.vc, g ∉ blk v
  ah : ∀ v ∈ L.hs, ∀ g ∈ blk L.va, g ∉ blk v
  hh : ∀ (i j : Nat) (v u : Value), L.hs[i]? = some v → L.hs[j]? = some u → i ≠ j → ∀ g ∈ blk v, g ∉ blk u

structure Rep (w : World) (L : Lay) (S : St) : Prop where
  blk0 : w.heap[L.b]? = some (.cells #[L.vp, L.vm, L.vc, L.va] 79 (0, 0))
  places : Row w 37 3 L.vp S.places.length (vcells S.places)
  locked : Row w 4 1 L.vm S.locked.length (bcells S.locked)
  chans : Row w 81 3 L.vc S.chans.length (qcells S.chans L.hs)
  atomics : Row w 3 1 L.va S.atomics.length (ints S.atomics)
  hlen : L.hs.length = S.chans.length
  held : ∀ (i : Nat) (c : Ch) (v : Value), S.chans[i]? = some c → L.hs[i]? = some v → Row w 37 3 v c.held.length (vcells c.held)
  sep : L.Sep

theorem Rep.kept {w w' : World} {L : Lay} {S : St} (h : Rep w L S) {fp : List Nat} (hk : Kept fp w w') (hd : ∀ g, L.own g → g ∉ fp) : Rep w' L S where
  blk0 := hk.heap h.blk0 (hd _ (.inl rfl))
  places := h.places.kept hk fun g hg => hd g (.inr (.inl hg))
  locked := h.locked.kept hk fun g hg => hd g (.inr (.inr (.inl hg)))
  chans := h.chans.kept hk fun g hg => hd g (.inr (.inr (.inr (.inl hg))))
  atomics := h.atomics.kept hk fun g hg => hd g (.inr (.inr (.inr (.inr (.inl hg)))))
  hlen := h.hlen
  held i c v hc hv := (h.held i c v hc hv).kept hk fun g hg => hd g (.inr (.inr (.inr (.inr (.inr ⟨v, List.mem_of_getElem? hv, hg⟩)))))
  sep := h.sep
theorem Rep.later {w w' : World} {L : Lay} {S : St} (h : Rep w L S) (hb : Below w.heap.size w w') : Rep w' L S := h.kept (Kept.ofBelow hb []) (by simp)
theorem Rep.lt {w : World} {L : Lay} {S : St} (h : Rep w L S) : ∀ g, L.own g → g < w.heap.size := by
  rintro g (rfl | hg | hg | hg | hg | ⟨v, hv, hg⟩)
  · exact blk_lt h.blk0
  · exact h.places.lt g hg
  · exact h.locked.lt g hg
  · exact h.chans.lt g hg
  · exact h.atomics.lt g hg
  · obtain ⟨i, hi⟩ := List.getElem?_of_mem hv
    have hl : i < L.hs.length := (List.getElem?_eq_some_iff.1 hi).1
    have hl2 : i < S.chans.length := by rw [← h.hlen]; exact hl
    exact (h.held i _ v (List.getElem?_eq_getElem hl2) hi).lt g hg
/-- The state's four fields. -/
theorem Rep.fields {w : World} {L : Lay} {S : St} (h : Rep w L S) : w.cell? ⟨L.b, 0, none⟩ = some L.vp ∧ w.cell? ⟨L.b, 1, none⟩ = some L.vm ∧ w.cell? ⟨L.b, 2, none⟩ = some L.vc ∧ w.cell? ⟨L.b, 3, none⟩ = some L.va := by
  simp [blk_cell h.blk0]

/-- A lock turned. -/
theorem Rep.lock {w : World} {L : Lay} {S : St} (h : Rep w L S) {g n c : Nat} (hv : L.vm = .slice (some ⟨g, 0, none⟩) n c) (hg : blk L.vm = [g]) (i : Nat) (hi : i < S.locked.length) (x : Bool) : Rep (w.setCell ⟨g, i, none⟩ (.bool x)) L { S with locked := S.locked.set i x } := by
  have hk : Kept [g] w (w.setCell ⟨g, i, none⟩ (.bool x)) := (Kept.refl _ _).set _ _ (.inl (by simp))
  have hm : g ∈ Stk.blk L.vm := by rw [hg]; simp
  obtain ⟨_, _, hv2, _, _, _, _⟩ := h.locked.form
  obtain rfl : n = S.locked.length := by rw [hv] at hv2; injection hv2
  have s := h.sep
  refine ⟨hk.heap h.blk0 ?_, h.places.kept hk ?_, ?_, h.chans.kept hk ?_, h.atomics.kept hk ?_, h.hlen, fun i2 c2 v2 hc2 hv2 => (h.held i2 c2 v2 hc2 hv2).kept hk ?_, s⟩
  · simp; intro e; exact s.bm (e ▸ hm)
  · intro j hj; simp; rintro rfl; exact s.pm _ hj hm
  · have h2 := h.locked
    rw [hv] at h2 ⊢
    have h3 := h2.set i (.bool x) (by omega)
    simpa [bcells, List.map_set] using h3
  · intro j hj; simp; rintro rfl; exact s.mc _ hm hj
  · intro j hj; simp; rintro rfl; exact s.ma _ hm hj
  · intro j hj; simp; rintro rfl; exact s.mh _ (List.mem_of_getElem? ‹_›) _ hm hj
/-- An atomic set. -/
theorem Rep.atomic {w : World} {L : Lay} {S : St} (h : Rep w L S) {g n c : Nat} (hv : L.va = .slice (some ⟨g, 0, none⟩) n c) (hg : Stk.blk L.va = [g]) (i : Nat) (hi : i < S.atomics.length) (x : Int) : Rep (w.setCell ⟨g, i, none⟩ (.int .i64 x)) L { S with atomics := S.atomics.set i x } := by
  have hk : Kept [g] w (w.setCell ⟨g, i, none⟩ (.int .i64 x)) := (Kept.refl _ _).set _ _ (.inl (by simp))
  have hm : g ∈ Stk.blk L.va := by rw [hg]; simp
  obtain ⟨_, _, hv2, _, _, _, _⟩ := h.atomics.form
  obtain rfl : n = S.atomics.length := by rw [hv] at hv2; injection hv2
  have s := h.sep
  refine ⟨hk.heap h.blk0 ?_, h.places.kept hk ?_, h.locked.kept hk ?_, h.chans.kept hk ?_, ?_, h.hlen, fun i2 c2 v2 hc2 hv2 => (h.held i2 c2 v2 hc2 hv2).kept hk ?_, s⟩
  · simp; intro e; exact s.ba (e ▸ hm)
  · intro j hj; simp; rintro rfl; exact s.pa _ hj hm
  · intro j hj; simp; rintro rfl; exact s.ma _ hj hm
  · intro j hj; simp; rintro rfl; exact s.ca _ hj hm
  · have h2 := h.atomics
    rw [hv] at h2 ⊢
    have h3 := h2.set i (.int .i64 x) (by omega)
    simpa [ints, List.map_set] using h3
  · intro j hj; simp; rintro rfl; exact s.ah _ (List.mem_of_getElem? ‹_›) _ hm hj
theorem vcells_set (l : List Val) (i : Nat) (hi : i < l.length) (v : Val) : (((vcells l).set (i * 3) (.int .i64 v.t)).set (i * 3 + 1) (.int .i64 v.n)).set (i * 3 + 2) (.int .u64 v.b) = vcells (l.set i v) := by
  unfold vcells
  have e0 := flat_set cells_len l i 0 l[i] ⟨v.t, l[i].n, l[i].b⟩ (.int .i64 v.t) (by omega) (List.getElem?_eq_getElem hi) rfl
  have e1 := flat_set cells_len (l.set i ⟨v.t, l[i].n, l[i].b⟩) i 1 ⟨v.t, l[i].n, l[i].b⟩ ⟨v.t, v.n, l[i].b⟩ (.int .i64 v.n) (by omega) (by simp [hi]) rfl
  have e2 := flat_set cells_len ((l.set i ⟨v.t, l[i].n, l[i].b⟩).set i ⟨v.t, v.n, l[i].b⟩) i 2 ⟨v.t, v.n, l[i].b⟩ v (.int .u64 v.b) (by omega) (by simp [hi]) rfl
  simp only [Nat.add_zero] at e0
  rw [e0, e1, e2]
  simp
/-- A place set. -/
theorem Rep.place {w : World} {L : Lay} {S : St} (h : Rep w L S) {g n c : Nat} (hv : L.vp = .slice (some ⟨g, 0, none⟩) n c) (hg : Stk.blk L.vp = [g]) (i : Nat) (hi : i < S.places.length) (v : Val) : Rep (((w.setCell ⟨g, i * 3, none⟩ (.int .i64 v.t)).setCell ⟨g, i * 3 + 1, none⟩ (.int .i64 v.n)).setCell ⟨g, i * 3 + 2, none⟩ (.int .u64 v.b)) L { S with places := S.places.set i v } := by
  have hk : Kept [g] w (((w.setCell ⟨g, i * 3, none⟩ (.int .i64 v.t)).setCell ⟨g, i * 3 + 1, none⟩ (.int .i64 v.n)).setCell ⟨g, i * 3 + 2, none⟩ (.int .u64 v.b)) :=
    ((((Kept.refl _ _).set _ _ (.inl (by simp))).set _ _ (.inl (by simp))).set _ _ (.inl (by simp)))
  have hm : g ∈ Stk.blk L.vp := by rw [hg]; simp
  obtain ⟨_, _, hv2, _, _, _, _⟩ := h.places.form
  obtain rfl : n = S.places.length := by rw [hv] at hv2; injection hv2
  have s := h.sep
  refine ⟨hk.heap h.blk0 ?_, ?_, h.locked.kept hk ?_, h.chans.kept hk ?_, h.atomics.kept hk ?_, h.hlen, fun i2 c2 v2 hc2 hv2 => (h.held i2 c2 v2 hc2 hv2).kept hk ?_, s⟩
  · simp; intro e; exact s.bp (e ▸ hm)
  · have h2 := h.places
    rw [hv] at h2 ⊢
    have h3 := ((h2.set (i * 3) (.int .i64 v.t) (by omega)).set (i * 3 + 1) (.int .i64 v.n) (by omega)).set (i * 3 + 2) (.int .u64 v.b) (by omega)
    rw [vcells_set _ _ hi] at h3
    simpa using h3
  · intro j hj; simp; rintro rfl; exact s.pm _ hm hj
  · intro j hj; simp; rintro rfl; exact s.pc _ hm hj
  · intro j hj; simp; rintro rfl; exact s.pa _ hm hj
  · intro j hj; simp; rintro rfl; exact s.ph _ (List.mem_of_getElem? ‹_›) _ hm hj

/-- A channel's cells. -/
theorem qcells_at {l : List Ch} {hs : List Value} {i : Nat} {c : Ch} {v : Value} (hc : l[i]? = some c) (hv : hs[i]? = some v) : (qcells l hs)[i * 3]? = some (.int .i64 c.t) ∧ (qcells l hs)[i * 3 + 1]? = some (.int .i64 c.room) ∧ (qcells l hs)[i * 3 + 2]? = some v := by
  have hz : (l.zip hs)[i]? = some (c, v) := by rw [List.getElem?_zip_eq_some]; exact ⟨hc, hv⟩
  have h0 := flat_get qcell_len (l.zip hs) i 0 (by omega)
  have h1 := flat_get qcell_len (l.zip hs) i 1 (by omega)
  have h2 := flat_get qcell_len (l.zip hs) i 2 (by omega)
  rw [hz] at h0 h1 h2
  exact ⟨h0, h1, h2⟩
theorem qcells_set {l : List Ch} {hs : List Value} {i : Nat} {c : Ch} {v : Value} (hc : l[i]? = some c) (hv : hs[i]? = some v) (u : Value) (xs : List Val) : (qcells l hs).set (i * 3 + 2) u = qcells (l.set i { c with held := xs }) (hs.set i u) := by
  have hz : (l.zip hs)[i]? = some (c, v) := by rw [List.getElem?_zip_eq_some]; exact ⟨hc, hv⟩
  have h := flat_set qcell_len (l.zip hs) i 2 (c, v) ({ c with held := xs }, u) u (by omega) hz rfl
  unfold qcells
  rw [h]
  congr 1
  apply List.ext_getElem?
  intro j
  rw [List.getElem?_set]
  by_cases hj : i = j
  · subst hj
    have h1 := (List.getElem?_eq_some_iff.1 hc).1
    have h2 := (List.getElem?_eq_some_iff.1 hv).1
    rw [if_pos rfl, if_pos (by simp; omega)]
    symm
    rw [List.getElem?_zip_eq_some]
    simp [h1, h2]
  · simp only [hj, if_false]
    simp only [List.zip, List.getElem?_zipWith, List.getElem?_set_ne hj]
theorem bset_mem {hs : List Value} {i : Nat} {u x : Value} (h : x ∈ hs.set i u) : x = u ∨ x ∈ hs := by
  rcases List.mem_or_eq_of_mem_set h with h | h
  · exact .inr h
  · exact .inl h
/-- What a state's blocks are, one channel's row another one. -/
theorem Lay.own_set {L : Lay} {i : Nat} {u : Value} {g : Nat} (h : ({ L with hs := L.hs.set i u } : Lay).own g) : L.own g ∨ g ∈ Stk.blk u := by
  rcases h with h | h | h | h | h | ⟨v, hv, h⟩
  · exact .inl (.inl h)
  · exact .inl (.inr (.inl h))
  · exact .inl (.inr (.inr (.inl h)))
  · exact .inl (.inr (.inr (.inr (.inl h))))
  · exact .inl (.inr (.inr (.inr (.inr (.inl h)))))
  · rcases bset_mem hv with rfl | hv
    · exact .inr h
    · exact .inl (.inr (.inr (.inr (.inr (.inr ⟨v, hv, h⟩)))))
/-- A channel's row made anew. -/
theorem Rep.chan {w : World} {L : Lay} {S : St} (h : Rep w L S) {g n c : Nat} (hv : L.vc = .slice (some ⟨g, 0, none⟩) n c) (hg : Stk.blk L.vc = [g]) (i : Nat) (x : Ch) (v : Value) (hx : S.chans[i]? = some x) (hi : L.hs[i]? = some v)
    {w1 : World} (hk : Kept (Stk.blk v) w w1) (u : Value) (xs : List Val) (hr : Row w1 37 3 u xs.length (vcells xs)) (hu : ∀ g ∈ Stk.blk u, g ∈ Stk.blk v ∨ w.heap.size ≤ g) :
    Rep (w1.setCell ⟨g, i * 3 + 2, none⟩ u) { L with hs := L.hs.set i u } { S with chans := S.chans.set i { x with held := xs } } := by
  have hlt := h.lt
  have s := h.sep
  have hm : g ∈ Stk.blk L.vc := by rw [hg]; simp
  have hvm : v ∈ L.hs := List.mem_of_getElem? hi
  have hil : i < S.chans.length := (List.getElem?_eq_some_iff.1 hx).1
  obtain ⟨_, _, hv2, _, _, _, _⟩ := h.chans.form
  obtain rfl : n = S.chans.length := by rw [hv] at hv2; injection hv2
  have k2 : Kept [g] w1 (w1.setCell ⟨g, i * 3 + 2, none⟩ u) := (Kept.refl _ _).set _ _ (.inl (by simp))
  have kk : Kept (g :: Stk.blk v) w (w1.setCell ⟨g, i * 3 + 2, none⟩ u) := (hk.mono (by simp; exact fun _ h => .inr h)).trans k2 (by simp)
  have hug : g ∉ Stk.blk u := fun hm2 => by
    rcases hu g hm2 with h1 | h1
    · exact s.ch v hvm g hm h1
    · have := hlt g (.inr (.inr (.inr (.inl hm)))); omega
  -- a block of the state that is no channel's row, is none of u's
  have nu : ∀ j, L.own j → j ∉ Stk.blk v → j ∉ Stk.blk u := fun j hj hn hm2 => by
    rcases hu j hm2 with h1 | h1
    · exact hn h1
    · have := hlt j hj; omega
  refine ⟨kk.heap h.blk0 ?_, h.places.kept kk ?_, h.locked.kept kk ?_, ?_, h.atomics.kept kk ?_, by simpa using h.hlen, ?_, ?_⟩
  · simp; exact ⟨fun e => s.bc (e ▸ hm), s.bh v hvm⟩
  · intro j hj; simp; exact ⟨fun e => s.pc _ (e ▸ hj) hm, s.ph v hvm j hj⟩
  · intro j hj; simp; exact ⟨fun e => s.mc _ (e ▸ hj) hm, s.mh v hvm j hj⟩
  · have h2 := h.chans.kept hk (by intro j hj; exact s.ch v hvm j hj)
    rw [hv] at h2 ⊢
    have h3 := h2.set (i * 3 + 2) u (by omega)
    rw [qcells_set hx hi u xs] at h3
    simpa using h3
  · intro j hj; simp; exact ⟨fun e => s.ca _ hm (e ▸ hj), s.ah v hvm j hj⟩
  · intro j c2 v2 hc2 hv2
    by_cases hij : i = j
    · subst hij
      have hil2 := (List.getElem?_eq_some_iff.1 hi).1
      simp [hil2] at hv2
      simp [hil] at hc2
      subst hv2 hc2
      exact hr.kept k2 (by intro j hj; simp; rintro rfl; exact hug hj)
    · rw [List.getElem?_set_ne hij] at hv2 hc2
      refine (h.held j c2 v2 hc2 hv2).kept kk ?_
      intro b hb
      simp
      exact ⟨fun e => s.ch v2 (List.mem_of_getElem? hv2) g hm (e ▸ hb), s.hh j i v2 v hv2 hi (Ne.symm hij) b hb⟩
  · refine ⟨s.bp, s.bm, s.bc, s.ba, ?_, s.pm, s.pc, s.pa, ?_, s.mc, s.ma, ?_, s.ca, ?_, ?_, ?_⟩
    · intro y hy
      rcases bset_mem hy with rfl | hy
      · exact nu _ (.inl rfl) (s.bh v hvm)
      · exact s.bh y hy
    · intro y hy b hb
      rcases bset_mem hy with rfl | hy
      · exact nu _ (.inr (.inl hb)) (s.ph v hvm b hb)
      · exact s.ph y hy b hb
    · intro y hy b hb
      rcases bset_mem hy with rfl | hy
      · exact nu _ (.inr (.inr (.inl hb))) (s.mh v hvm b hb)
      · exact s.mh y hy b hb
    · intro y hy b hb
      rcases bset_mem hy with rfl | hy
      · exact nu _ (.inr (.inr (.inr (.inl hb)))) (s.ch v hvm b hb)
      · exact s.ch y hy b hb
    · intro y hy b hb
      rcases bset_mem hy with rfl | hy
      · exact nu _ (.inr (.inr (.inr (.inr (.inl hb))))) (s.ah v hvm b hb)
      · exact s.ah y hy b hb
    · intro p q y z hy hz hpq b hb hb2
      simp only at hy hz
      rw [List.getElem?_set] at hy hz
      by_cases hp : i = p
      · subst hp
        rw [if_neg hpq] at hz
        simp only [if_true] at hy
        have hil2 := (List.getElem?_eq_some_iff.1 hi).1
        rw [if_pos hil2] at hy
        injection hy with hy
        subst hy
        exact nu b (.inr (.inr (.inr (.inr (.inr ⟨z, List.mem_of_getElem? hz, hb2⟩))))) (s.hh q i z v hz hi (Ne.symm hpq) b hb2) hb
      · rw [if_neg hp] at hy
        by_cases hq : i = q
        · subst hq
          simp only [if_true] at hz
          have hil2 := (List.getElem?_eq_some_iff.1 hi).1
          rw [if_pos hil2] at hz
          injection hz with hz
          subst hz
          exact nu b (.inr (.inr (.inr (.inr (.inr ⟨y, List.mem_of_getElem? hy, hb⟩))))) (s.hh p i y v hy hi hpq b hb) hb2
        · rw [if_neg hq] at hz
          exact s.hh p q y z hy hz hpq b hb hb2

/-- What became of a state: it holds that now; beside its blocks and new ones nothing has turned. -/
def Stp (w : World) (L : Lay) (S : St) (w' : World) : Prop := ∃ L' : Lay, Rep w' L' S ∧ L'.b = L.b ∧ (∀ g, L'.own g → L.own g ∨ w.heap.size ≤ g) ∧ Kept L.fp w w'
theorem Stp.same {w w' : World} {L : Lay} {S : St} (h : Rep w' L S) (hk : Kept L.fp w w') : Stp w L S w' := ⟨L, h, rfl, fun _ h => .inl h, hk⟩
theorem Stp.quiet {w w' : World} {L : Lay} {S : St} (h : Rep w L S) (hb : Below w.heap.size w w') : Stp w L S w' := Stp.same (h.later hb) (Kept.ofBelow hb _)
theorem Rep.chanStp {w : World} {L : Lay} {S : St} (h : Rep w L S) {g n c : Nat} (hv : L.vc = .slice (some ⟨g, 0, none⟩) n c) (hg : Stk.blk L.vc = [g]) (i : Nat) (x : Ch) (v : Value) (hx : S.chans[i]? = some x) (hi : L.hs[i]? = some v)
    {w1 : World} (hk : Kept (Stk.blk v) w w1) (u : Value) (xs : List Val) (hr : Row w1 37 3 u xs.length (vcells xs)) (hu : ∀ g ∈ Stk.blk u, g ∈ Stk.blk v ∨ w.heap.size ≤ g) :
    Stp w L { S with chans := S.chans.set i { x with held := xs } } (w1.setCell ⟨g, i * 3 + 2, none⟩ u) := by
  have hvm : v ∈ L.hs := List.mem_of_getElem? hi
  refine ⟨_, h.chan hv hg i x v hx hi hk u xs hr hu, rfl, fun j hj => ?_, ?_⟩
  · rcases Lay.own_set hj with h1 | h1
    · exact .inl h1
    · rcases hu j h1 with h2 | h2
      · exact .inl (.inr (.inr (.inr (.inr (.inr ⟨v, hvm, h2⟩)))))
      · exact .inr h2
  · refine (hk.mono fun j hj => Lay.mem.2 (.inr (.inr (.inr (.inr (.inr ⟨v, hvm, hj⟩)))))).set _ _ (.inl (Lay.mem.2 (.inr (.inr (.inr (.inl ?_))))))
    rw [hg]; simp
end Go.Proofs.YtmalbdoneghnmaaDoor
