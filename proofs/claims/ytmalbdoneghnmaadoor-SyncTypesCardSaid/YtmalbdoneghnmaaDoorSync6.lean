/-
  What goroutines share: a state made, element by element.
-/
import Derived.Test.YtmalbdoneghnmaaDoorSync5
namespace Go.Proofs.YtmalbdoneghnmaaDoor
open Go.RowKit Go.Stk
attribute [local go_sem ↓] Go.wp_at_zero Go.wp_at_succ

theorem infoBool : (Tryd.prog.info? 4).map (fun i => (i.zero, i.size, i.bytes)) = some (some (.bool false), 1, 1) := by kernel_rfl
theorem infoInt : (Tryd.prog.info? 3).map (fun i => (i.zero, i.size, i.bytes)) = some (some (.int .i64 0), 1, 8) := by kernel_rfl
theorem infoQueue : (Tryd.prog.info? 81).map (fun i => (i.zero, i.size, i.bytes)) = some (some (.agg #[.int .i64 0, .int .i64 0, .slice none 0 0]), 3, 40) := by kernel_rfl

/-- A state just made: no places, no channels yet. -/
theorem Rep.init {W : World} {b g1 g2 m a : Nat} (hb : W.heap[b]? = some (.cells #[.slice none 0 0, .slice (some ⟨g1, 0, none⟩) m m, .slice none 0 0, .slice (some ⟨g2, 0, none⟩) a a] 79 (0, 0)))
    (h1 : W.heap[g1]? = some (.cells (madeCells #[.bool false] m) 4 (0, 0))) (h2 : W.heap[g2]? = some (.cells (madeCells #[.int .i64 0] a) 3 (0, 0))) (n1 : b ≠ g1) (n2 : b ≠ g2) (n3 : g1 ≠ g2) (hm : m ≤ maxLen) (ha : a ≤ maxLen) :
    Rep W ⟨b, .slice none 0 0, .slice (some ⟨g1, 0, none⟩) m m, .slice none 0 0, .slice (some ⟨g2, 0, none⟩) a a, []⟩ ⟨[], List.replicate m false, [], List.replicate a 0⟩ := by
  have hx : ∀ (g k x : Nat), x ∈ blk (.slice (some ⟨g, 0, none⟩) k k) → x = g := by
    intro g k x h
    cases k <;> simp [blk] at h
    exact h
  refine ⟨hb, Row.empty _ _ _ _, ?_, by simpa [qcells] using Row.empty W 81 3 none, ?_, rfl, by simp, ?_⟩
  · have := Row.new (k := 1) h1 (by simp [size_madeCells]) hm
    rw [madeCells_rep] at this
    simpa [bcells] using this
  · have := Row.new (k := 1) h2 (by simp [size_madeCells]) ha
    rw [madeCells_rep] at this
    simpa [ints] using this
  · refine ⟨by simp [blk], fun h => n1 (hx _ _ _ h), by simp [blk], fun h => n2 (hx _ _ _ h), by simp, by simp [blk], by simp [blk], by simp [blk], by simp, by simp [blk], ?_, by simp, by simp [blk], by simp, by simp, by simp⟩
    intro g hg hg2
    exact n3 ((hx _ _ _ hg).symm.trans (hx _ _ _ hg2))
theorem vcells_len (l : List Val) : (vcells l).length = l.length * 3 := flat_len cells_len l
/-- A place more. -/
theorem Rep.addPlace {w : World} {L : Lay} {S : St} (h : Rep w L S) (v : Val) {w1 : World} (hk : Kept (blk L.vp) w w1) (u : Value) (hr : Row w1 37 3 u (S.places.length + 1) (vcells (S.places ++ [v]))) (hu : ∀ g ∈ blk u, g ∈ blk L.vp ∨ w.heap.size ≤ g) :
    Rep (w1.setCell ⟨L.b, 0, none⟩ u) { L with vp := u } { S with places := S.places ++ [v] } := by
  have s := h.sep
  have hlt := h.lt
  have nb : L.b ∉ blk u := fun hm => by
    rcases hu _ hm with h1 | h1
    · exact s.bp h1
    · have := hlt L.b (.inl rfl); omega
  have k2 : Kept [L.b] w1 (w1.setCell ⟨L.b, 0, none⟩ u) := (Kept.refl _ _).set _ _ (.inl (by simp))
  have kk : Kept (L.b :: blk L.vp) w (w1.setCell ⟨L.b, 0, none⟩ u) := (hk.mono (by simp; exact fun _ h => .inr h)).trans k2 (by simp)
  have far : ∀ x, L.own x → x ∉ blk L.vp → x ≠ L.b → x ∉ L.b :: blk L.vp ∧ x ∉ blk u := fun x hx hn hb => ⟨by simp [hb, hn], fun hm => by
    rcases hu _ hm with h1 | h1
    · exact hn h1
    · have := hlt x hx; omega⟩
  have fm : ∀ x ∈ blk L.vm, x ∉ L.b :: blk L.vp ∧ x ∉ blk u := fun x hx => far x (.inr (.inr (.inl hx))) (fun hm => s.pm x hm hx) (fun e => s.bm (e ▸ hx))
  have fc : ∀ x ∈ blk L.vc, x ∉ L.b :: blk L.vp ∧ x ∉ blk u := fun x hx => far x (.inr (.inr (.inr (.inl hx)))) (fun hm => s.pc x hm hx) (fun e => s.bc (e ▸ hx))
  have fa : ∀ x ∈ blk L.va, x ∉ L.b :: blk L.vp ∧ x ∉ blk u := fun x hx => far x (.inr (.inr (.inr (.inr (.inl hx))))) (fun hm => s.pa x hm hx) (fun e => s.ba (e ▸ hx))
  have fh : ∀ v ∈ L.hs, ∀ x ∈ blk v, x ∉ L.b :: blk L.vp ∧ x ∉ blk u := fun v hv x hx => far x (.inr (.inr (.inr (.inr (.inr ⟨v, hv, hx⟩))))) (fun hm => s.ph v hv x hm hx) (fun e => s.bh v hv (e ▸ hx))
  refine ⟨?_, ?_, h.locked.kept kk fun g hg => (fm g hg).1, h.chans.kept kk fun g hg => (fc g hg).1, h.atomics.kept kk fun g hg => (fa g hg).1, h.hlen, fun i c v hc hv => (h.held i c v hc hv).kept kk fun g hg => (fh v (List.mem_of_getElem? hv) g hg).1, ?_⟩
  · have := blk_set (hk.heap h.blk0 s.bp) 0 u
    simpa using this
  · have := hr.kept k2 (fun g hg => by simp; rintro rfl; exact nb hg)
    simpa using this
  · exact ⟨nb, s.bm, s.bc, s.ba, s.bh, fun g hg hm => (fm g hm).2 hg, fun g hg hm => (fc g hm).2 hg, fun g hg hm => (fa g hm).2 hg, fun v hv g hg hm => (fh v hv g hm).2 hg, s.mc, s.ma, s.mh, s.ca, s.ch, s.ah, s.hh⟩
theorem qcells_snoc (l : List Ch) (hs : List Value) (hl : hs.length = l.length) (t room : Int) : qcells l hs ++ [.int .i64 t, .int .i64 room, .slice none 0 0] = qcells (l ++ [⟨t, room, []⟩]) (hs ++ [.slice none 0 0]) := by
  unfold qcells
  rw [List.zip_append hl.symm]
  simp [qcell]
/-- A channel more. -/
theorem Rep.addChan {w : World} {L : Lay} {S : St} (h : Rep w L S) (t room : Int) {w1 : World} (hk : Kept (blk L.vc) w w1) (u : Value) (hr : Row w1 81 3 u (S.chans.length + 1) (qcells S.chans L.hs ++ [.int .i64 t, .int .i64 room, .slice none 0 0])) (hu : ∀ g ∈ blk u, g ∈ blk L.vc ∨ w.heap.size ≤ g) :
    Rep (w1.setCell ⟨L.b, 2, none⟩ u) { L with vc := u, hs := L.hs ++ [.slice none 0 0] } { S with chans := S.chans ++ [⟨t, room, []⟩] } := by
  have s := h.sep
  have hlt := h.lt
  have nb : L.b ∉ blk u := fun hm => by
    rcases hu _ hm with h1 | h1
    · exact s.bc h1
    · have := hlt L.b (.inl rfl); omega
  have k2 : Kept [L.b] w1 (w1.setCell ⟨L.b, 2, none⟩ u) := (Kept.refl _ _).set _ _ (.inl (by simp))
  have kk : Kept (L.b :: blk L.vc) w (w1.setCell ⟨L.b, 2, none⟩ u) := (hk.mono (by simp; exact fun _ h => .inr h)).trans k2 (by simp)
  have far : ∀ x, L.own x → x ∉ blk L.vc → x ≠ L.b → x ∉ L.b :: blk L.vc ∧ x ∉ blk u := fun x hx hn hb => ⟨by simp [hb, hn], fun hm => by
    rcases hu _ hm with h1 | h1
    · exact hn h1
    · have := hlt x hx; omega⟩
  have fp : ∀ x ∈ blk L.vp, x ∉ L.b :: blk L.vc ∧ x ∉ blk u := fun x hx => far x (.inr (.inl hx)) (fun hm => s.pc x hx hm) (fun e => s.bp (e ▸ hx))
  have fm : ∀ x ∈ blk L.vm, x ∉ L.b :: blk L.vc ∧ x ∉ blk u := fun x hx => far x (.inr (.inr (.inl hx))) (fun hm => s.mc x hx hm) (fun e => s.bm (e ▸ hx))
  have fa : ∀ x ∈ blk L.va, x ∉ L.b :: blk L.vc ∧ x ∉ blk u := fun x hx => far x (.inr (.inr (.inr (.inr (.inl hx))))) (fun hm => s.ca x hm hx) (fun e => s.ba (e ▸ hx))
  have fh : ∀ v ∈ L.hs, ∀ x ∈ blk v, x ∉ L.b :: blk L.vc ∧ x ∉ blk u := fun v hv x hx => far x (.inr (.inr (.inr (.inr (.inr ⟨v, hv, hx⟩))))) (fun hm => s.ch v hv x hm hx) (fun e => s.bh v hv (e ▸ hx))
  have split : ∀ v, v ∈ L.hs ++ [.slice none 0 0] → v ∈ L.hs ∨ v = .slice none 0 0 := fun v hv => by simpa using hv
  refine ⟨?_, h.places.kept kk fun g hg => (fp g hg).1, h.locked.kept kk fun g hg => (fm g hg).1, ?_, h.atomics.kept kk fun g hg => (fa g hg).1, by simp [h.hlen], ?_, ?_⟩
  · have := blk_set (hk.heap h.blk0 s.bc) 2 u
    simpa using this
  · have := hr.kept k2 (fun g hg => by simp; rintro rfl; exact nb hg)
    rw [qcells_snoc _ _ h.hlen] at this
    simpa using this
  · intro i c v hc hv
    by_cases hi : i < S.chans.length
    · rw [List.getElem?_append_left hi] at hc
      rw [List.getElem?_append_left (by rw [h.hlen]; exact hi)] at hv
      exact (h.held i c v hc hv).kept kk fun g hg => (fh v (List.mem_of_getElem? hv) g hg).1
    · have hl : i < S.chans.length + 1 := by have := (List.getElem?_eq_some_iff.1 hc).1; simpa using this
      obtain rfl : i = S.chans.length := by omega
      simp at hc
      rw [← h.hlen] at hv
      simp at hv
      subst hc hv
      exact Row.empty _ _ _ _
  · refine ⟨s.bp, s.bm, nb, s.ba, ?_, s.pm, fun g hg hm => (fp g hg).2 hm, s.pa, ?_, fun g hg hm => (fm g hg).2 hm, s.ma, ?_, fun g hg hm => (fa g hm).2 hg, ?_, ?_, ?_⟩
    · intro v hv; rcases split v hv with hv | rfl; exact s.bh v hv; simp [blk]
    · intro v hv; rcases split v hv with hv | rfl; exact s.ph v hv; simp [blk]
    · intro v hv; rcases split v hv with hv | rfl; exact s.mh v hv; simp [blk]
    · intro v hv; rcases split v hv with hv | rfl; exact fun g hg hm => (fh v hv g hm).2 hg; simp [blk]
    · intro v hv; rcases split v hv with hv | rfl; exact s.ah v hv; simp [blk]
    · intro i j v u' hv hu' hij g hg
      by_cases hi : i < L.hs.length
      · by_cases hj : j < L.hs.length
        · rw [List.getElem?_append_left hi] at hv
          rw [List.getElem?_append_left hj] at hu'
          exact s.hh i j v u' hv hu' hij g hg
        · have := (List.getElem?_eq_some_iff.1 hu').1
          simp at this
          obtain rfl : j = L.hs.length := by omega
          simp at hu'
          subst hu'
          simp [blk]
      · have := (List.getElem?_eq_some_iff.1 hv).1
        simp at this
        obtain rfl : i = L.hs.length := by omega
        simp at hv
        subst hv
        simp [blk] at hg
end Go.Proofs.YtmalbdoneghnmaaDoor
