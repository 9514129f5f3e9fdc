/-
  A pool in memory: its pages in one block, of each arena its struct, its runs, what is taken.
-/
import Derived.Test.YtpjphmpebegidaaDoorProg
import Derived.Test.YtpjphmpebegidaaDoorHeap
import Derived.Test.YtpjphmpebegidaaDoorFlat
namespace Go.Proofs.YtpjphmpebegidaaDoor
open Go.RowKit Go.Stk

def bcells (l : List Bool) : List Value := l.map Value.bool
structure Ar where
  off : Nat
  n : Nat
  runs : List Int
  taken : List Bool
structure PS where
  np : Nat
  words : List Int
  ars : List Ar
structure AL where
  ab : Nat
  rb : Nat
  tb : Nat
  pa : Addr
def AL.bl (l : AL) : List Nat := [l.ab, l.rb, l.tb]
structure PLay where
  pb : Nat
  gb : Nat
  av : Value
  als : List AL
def PLay.own (L : PLay) (g : Nat) : Prop := g = L.pb ∨ g = L.gb ∨ g ∈ blk L.av ∨ ∃ l ∈ L.als, g ∈ l.bl
def PLay.fp (L : PLay) : List Nat := L.pb :: L.gb :: (blk L.av ++ L.als.flatMap AL.bl)
theorem PLay.mem {L : PLay} {g : Nat} : g ∈ L.fp ↔ L.own g := by simp [PLay.fp, PLay.own, List.mem_flatMap]
structure PLay.Sep (L : PLay) : Prop where
  pg : L.pb ≠ L.gb
  pv : L.pb ∉ blk L.av
  gv : L.gb ∉ blk L.av
  pl : ∀ l ∈ L.als, L.pb ∉ l.bl
  gl : ∀ l ∈ L.als, L.gb ∉ l.bl
  vl : ∀ l ∈ L.als, ∀ g ∈ blk L.av, g ∉ l.bl
  ar : ∀ l ∈ L.als, l.ab ≠ l.rb
  at' : ∀ l ∈ L.als, l.ab ≠ l.tb
  rt : ∀ l ∈ L.als, l.rb ≠ l.tb
  ll : ∀ (i j : Nat) (l k : AL), L.als[i]? = some l → L.als[j]? = some k → i ≠ j → ∀ g ∈ l.bl, g ∉ k.bl
structure ArRep (w : World) (gb : Nat) (l : AL) (a : Ar) : Prop where
  blk : w.heap[l.ab]? = some (.cells #[.slice (some l.pa) a.n a.n, .slice (some ⟨l.rb, 0, none⟩) a.n a.n, .slice (some ⟨l.tb, 0, none⟩) a.n a.n] 65 (0, 0))
  runs : w.heap[l.rb]? = some (.cells (ints a.runs).toArray 3 (0, 0))
  taken : w.heap[l.tb]? = some (.cells (bcells a.taken).toArray 4 (0, 0))
  lr : a.runs.length = a.n
  lt : a.taken.length = a.n
  pa : 0 < a.n → l.pa = ⟨gb, a.off * 16, none⟩
structure PRep (w : World) (L : PLay) (S : PS) : Prop where
  pool : w.heap[L.pb]? = some (.cells #[.slice (some ⟨L.gb, 0, none⟩) S.np S.np, L.av] 72 (0, 0))
  pages : w.heap[L.gb]? = some (.cells (ints S.words).toArray 74 (0, 0))
  lw : S.words.length = S.np * 16
  hnp : S.np ≤ 256
  arow : Row w 24 1 L.av L.als.length (L.als.map fun l => .pointer (some ⟨l.ab, 0, none⟩))
  alen : L.als.length = S.ars.length
  ar : ∀ (i : Nat) (a : Ar) (l : AL), S.ars[i]? = some a → L.als[i]? = some l → ArRep w L.gb l a ∧ a.off + a.n ≤ S.np
  sep : L.Sep

theorem ArRep.kept {w w' : World} {gb : Nat} {l : AL} {a : Ar} (h : ArRep w gb l a) {fp : List Nat} (hk : Kept fp w w') (hd : ∀ g ∈ l.bl, g ∉ fp) : ArRep w' gb l a :=
  ⟨hk.heap h.blk (hd _ (by simp [AL.bl])), hk.heap h.runs (hd _ (by simp [AL.bl])), hk.heap h.taken (hd _ (by simp [AL.bl])), h.lr, h.lt, h.pa⟩
theorem PRep.kept {w w' : World} {L : PLay} {S : PS} (h : PRep w L S) {fp : List Nat} (hk : Kept fp w w') (hd : ∀ g, L.own g → g ∉ fp) : PRep w' L S where
  pool := hk.heap h.pool (hd _ (.inl rfl))
  pages := hk.heap h.pages (hd _ (.inr (.inl rfl)))
  lw := h.lw
  hnp := h.hnp
  arow := h.arow.kept hk fun g hg => hd g (.inr (.inr (.inl hg)))
  alen := h.alen
  ar i a l ha hl := ⟨(h.ar i a l ha hl).1.kept hk fun g hg => hd g (.inr (.inr (.inr ⟨l, List.mem_of_getElem? hl, hg⟩))), (h.ar i a l ha hl).2⟩
  sep := h.sep
theorem PRep.later {w w' : World} {L : PLay} {S : PS} (h : PRep w L S) (hb : Below w.heap.size w w') : PRep w' L S := h.kept (Kept.ofBelow hb []) (by simp)
theorem PRep.has {w : World} {L : PLay} {S : PS} (h : PRep w L S) {i : Nat} {l : AL} (hl : L.als[i]? = some l) : ∃ a, S.ars[i]? = some a := by
  have h1 := (List.getElem?_eq_some_iff.1 hl).1
  exact ⟨_, List.getElem?_eq_getElem (by rw [← h.alen]; exact h1)⟩
theorem PRep.lt {w : World} {L : PLay} {S : PS} (h : PRep w L S) : ∀ g, L.own g → g < w.heap.size := by
  rintro g (rfl | rfl | hg | ⟨l, hm, hg⟩)
  · exact blk_lt h.pool
  · exact blk_lt h.pages
  · exact h.arow.lt g hg
  · obtain ⟨i, hi⟩ := List.getElem?_of_mem hm
    obtain ⟨a, ha⟩ := h.has hi
    have hr := (h.ar i a l ha hi).1
    simp [AL.bl] at hg
    rcases hg with rfl | rfl | rfl
    · exact blk_lt hr.blk
    · exact blk_lt hr.runs
    · exact blk_lt hr.taken

/-- One arena's blocks turned. -/
theorem PRep.arena {w w' : World} {L : PLay} {S : PS} (h : PRep w L S) {i : Nat} {a a' : Ar} {l : AL} (ha : S.ars[i]? = some a) (hl : L.als[i]? = some l) {fp : List Nat} (hf : ∀ g ∈ fp, g ∈ l.bl) (hk : Kept fp w w') (hr : ArRep w' L.gb l a') (ho : a'.off + a'.n ≤ S.np) :
    PRep w' L { S with ars := S.ars.set i a' } := by
  have hm := List.mem_of_getElem? hl
  have s := h.sep
  have hi := (List.getElem?_eq_some_iff.1 ha).1
  refine ⟨hk.heap h.pool fun hx => s.pl l hm (hf _ hx), hk.heap h.pages fun hx => s.gl l hm (hf _ hx), h.lw, h.hnp, h.arow.kept hk fun g hg hx => s.vl l hm g hg (hf _ hx), by simpa using h.alen, ?_, s⟩
  intro j b k hb hk'
  by_cases hij : i = j
  · subst hij
    simp [hi] at hb
    subst hb
    obtain rfl : l = k := by rw [hl] at hk'; exact Option.some.inj hk'
    exact ⟨hr, ho⟩
  · rw [List.getElem?_set_ne hij] at hb
    obtain ⟨h1, h2⟩ := h.ar j b k hb hk'
    exact ⟨h1.kept hk fun g hg hx => s.ll i j l k hl hk' hij g (hf _ hx) hg, h2⟩
theorem PRep.setRuns {w w' : World} {L : PLay} {S : PS} (h : PRep w L S) {i : Nat} {a : Ar} {l : AL} (ha : S.ars[i]? = some a) (hl : L.als[i]? = some l) (r : List Int) (hk : Kept [l.rb] w w') (hb : w'.heap[l.rb]? = some (.cells (ints r).toArray 3 (0, 0))) (hr : r.length = a.n) :
    PRep w' L { S with ars := S.ars.set i { a with runs := r } } := by
  have hm := List.mem_of_getElem? hl
  obtain ⟨h1, h2⟩ := h.ar i a l ha hl
  exact h.arena ha hl (by simp [AL.bl]) hk ⟨hk.heap h1.blk (by simpa using h.sep.ar l hm), hb, hk.heap h1.taken (by simpa using Ne.symm (h.sep.rt l hm)), hr, h1.lt, h1.pa⟩ h2
theorem PRep.setTaken {w w' : World} {L : PLay} {S : PS} (h : PRep w L S) {i : Nat} {a : Ar} {l : AL} (ha : S.ars[i]? = some a) (hl : L.als[i]? = some l) (t : List Bool) (hk : Kept [l.tb] w w') (hb : w'.heap[l.tb]? = some (.cells (bcells t).toArray 4 (0, 0))) (ht : t.length = a.n) :
    PRep w' L { S with ars := S.ars.set i { a with taken := t } } := by
  have hm := List.mem_of_getElem? hl
  obtain ⟨h1, h2⟩ := h.ar i a l ha hl
  exact h.arena ha hl (by simp [AL.bl]) hk ⟨hk.heap h1.blk (by simpa using h.sep.at' l hm), hk.heap h1.runs (by simpa using h.sep.rt l hm), hb, h1.lr, ht, h1.pa⟩ h2
theorem PRep.setWords {w w' : World} {L : PLay} {S : PS} (h : PRep w L S) (ws : List Int) (hk : Kept [L.gb] w w') (hb : w'.heap[L.gb]? = some (.cells (ints ws).toArray 74 (0, 0))) (hl : ws.length = S.np * 16) : PRep w' L { S with words := ws } := by
  have s := h.sep
  refine ⟨hk.heap h.pool (by simpa using s.pg), hb, hl, h.hnp, h.arow.kept hk fun g hg hx => ?_, h.alen, fun i a l ha hl2 => ⟨(h.ar i a l ha hl2).1.kept hk fun g hg hx => ?_, (h.ar i a l ha hl2).2⟩, s⟩
  · simp at hx; subst hx; exact s.gv hg
  · simp at hx; subst hx; exact s.gl l (List.mem_of_getElem? hl2) hg

/-! ### A stretch of a list, made anew -/
universe u
def rng {α : Type u} (l : List α) (a b : Nat) (z : α) : List α := l.take a ++ (List.replicate (b - a) z ++ l.drop b)
theorem rng_len {α : Type u} (l : List α) (a b : Nat) (z : α) (h : a ≤ b) (hb : b ≤ l.length) : (rng l a b z).length = l.length := by simp [rng]; omega
theorem rng_get {α : Type u} (l : List α) (a b : Nat) (z : α) (h : a ≤ b) (hb : b ≤ l.length) (k : Nat) : (rng l a b z)[k]? = if a ≤ k ∧ k < b then some z else l[k]? := by
  unfold rng
  by_cases h1 : k < a
  · rw [List.getElem?_append_left (by simp; omega), if_neg (by omega), List.getElem?_take, if_pos h1]
  · rw [List.getElem?_append_right (by simp; omega)]
    simp only [List.length_take, Nat.min_eq_left (show a ≤ l.length by omega)]
    by_cases h2 : k < b
    · rw [List.getElem?_append_left (by simp; omega), if_pos (by omega), List.getElem?_replicate, if_pos (by omega)]
    · rw [List.getElem?_append_right (by simp; omega), if_neg (by omega), List.getElem?_drop]
      simp only [List.length_replicate]
      congr 1; omega
theorem rng_none {α : Type u} (l : List α) (a : Nat) (z : α) (h : a ≤ l.length) : rng l a a z = l := by
  apply List.ext_getElem?
  intro k
  rw [rng_get l a a z (Nat.le_refl _) h, if_neg (by omega)]
theorem rng_step {α : Type u} (l : List α) (a b : Nat) (z : α) (h : a ≤ b) (hb : b < l.length) : (rng l a b z).set b z = rng l a (b + 1) z := by
  apply List.ext_getElem?
  intro k
  rw [List.getElem?_set, rng_get l a (b + 1) z (by omega) (by omega), rng_get l a b z h (by omega), rng_len l a b z h (by omega)]
  by_cases hk : b = k
  · subst hk; rw [if_pos rfl, if_pos hb, if_pos (by omega)]
  · rw [if_neg hk]
    by_cases h2 : a ≤ k ∧ k < b
    · rw [if_pos h2, if_pos (by omega)]
    · rw [if_neg h2, if_neg (by omega)]
theorem ints_rng (l : List Int) (a b : Nat) (z : Int) : ints (rng l a b z) = (ints l).take a ++ (List.replicate (b - a) (.int .i64 z) ++ (ints l).drop b) := by simp [ints, rng, List.map_take, List.map_drop]
theorem bcells_rng (l : List Bool) (a b : Nat) (z : Bool) : bcells (rng l a b z) = (bcells l).take a ++ (List.replicate (b - a) (.bool z) ++ (bcells l).drop b) := by simp [bcells, rng, List.map_take, List.map_drop]
end Go.Proofs.YtpjphmpebegidaaDoor
